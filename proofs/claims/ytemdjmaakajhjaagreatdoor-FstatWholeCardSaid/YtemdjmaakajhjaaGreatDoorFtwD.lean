/- Numbers as texts of digits, fractions, values and the functions of fmath: contracts of the program's functions, joined from smaller texts. Conditions stand at each theorem. -/
import Derived.Test.YtemdjmaakajhjaaGreatDoorFtaA
import Derived.Test.YtemdjmaakajhjaaGreatDoorFtaC
import Derived.Test.YtemdjmaakajhjaaGreatDoorFtbA
import Derived.Test.YtemdjmaakajhjaaGreatDoorFtwA
import Derived.Test.YtemdjmaakajhjaaGreatDoorFtwC

/- The law FstatWhole's own walk. Conditions: what the functions give; the tables lie as they are laid. -/
namespace Go.Proofs.YtemdjmaakajhjaaGreatDoor.Num.Ft
open Go.RowKit Go.Lib Num

/-- what the law's stat gives at BINOMDIST -/
def SB (o : Bool) (a b c q : Rat) : Prop := ∀ (W : World) (G : Nat), W.heap[G]? = some (.cells #[.int .i64 1, .string (numS a), .string (denS a), .string { data := #[] }, .bool false, .int .i64 0, .int .i64 0, .int .i64 0, .slice none 0 0, .int .i64 1, .string (numS b), .string (denS b), .string { data := #[] }, .bool false, .int .i64 0, .int .i64 0, .int .i64 0, .slice none 0 0, .int .i64 1, .string (numS c), .string (denS c), .string { data := #[] }, .bool false, .int .i64 0, .int .i64 0, .int .i64 0, .slice none 0 0, .int .i64 3, .string { data := #[] }, .string { data := #[] }, .string { data := #[] }, .bool o, .int .i64 0, .int .i64 0, .int .i64 0, .slice none 0 0] 27 (0, 0)) → Env W → Calls Tryz.prog 9 #[.string { data := #[66, 73, 78, 79, 77, 68, 73, 83, 84] }, .slice (some ⟨G, 0, none⟩) 4 4] W fun e w' => e = .returned (.agg #[.int .i64 1, .string (numS q), .string (denS q), .string { data := #[] }, .bool false, .int .i64 0, .int .i64 0, .int .i64 0, .slice none 0 0]) ∧ Below W.heap.size W w'
theorem SB.on {o : Bool} {a b c q : Rat} (T : SB o a b c q) (W : World) (G : Nat) (h : W.heap[G]? = some (.cells #[.int .i64 1, .string (numS a), .string (denS a), .string { data := #[] }, .bool false, .int .i64 0, .int .i64 0, .int .i64 0, .slice none 0 0, .int .i64 1, .string (numS b), .string (denS b), .string { data := #[] }, .bool false, .int .i64 0, .int .i64 0, .int .i64 0, .slice none 0 0, .int .i64 1, .string (numS c), .string (denS c), .string { data := #[] }, .bool false, .int .i64 0, .int .i64 0, .int .i64 0, .slice none 0 0, .int .i64 3, .string { data := #[] }, .string { data := #[] }, .string { data := #[] }, .bool o, .int .i64 0, .int .i64 0, .int .i64 0, .slice none 0 0] 27 (0, 0))) (hE : Env W) : Calls Tryz.prog 9 #[.string { data := #[66, 73, 78, 79, 77, 68, 73, 83, 84] }, .slice (some ⟨G, 0, none⟩) 4 4] W fun e w' => e = .returned (.agg #[.int .i64 1, .string (numS q), .string (denS q), .string { data := #[] }, .bool false, .int .i64 0, .int .i64 0, .int .i64 0, .slice none 0 0]) ∧ Below W.heap.size W w' := T W G h hE
/-- what it gives at HYPGEOMDIST -/
def SH (a b c d q : Rat) : Prop := ∀ (W : World) (G : Nat), W.heap[G]? = some (.cells #[.int .i64 1, .string (numS a), .string (denS a), .string { data := #[] }, .bool false, .int .i64 0, .int .i64 0, .int .i64 0, .slice none 0 0, .int .i64 1, .string (numS b), .string (denS b), .string { data := #[] }, .bool false, .int .i64 0, .int .i64 0, .int .i64 0, .slice none 0 0, .int .i64 1, .string (numS c), .string (denS c), .string { data := #[] }, .bool false, .int .i64 0, .int .i64 0, .int .i64 0, .slice none 0 0, .int .i64 1, .string (numS d), .string (denS d), .string { data := #[] }, .bool false, .int .i64 0, .int .i64 0, .int .i64 0, .slice none 0 0] 27 (0, 0)) → Env W → Calls Tryz.prog 9 #[.string { data := #[72, 89, 80, 71, 69, 79, 77, 68, 73, 83, 84] }, .slice (some ⟨G, 0, none⟩) 4 4] W fun e w' => e = .returned (.agg #[.int .i64 1, .string (numS q), .string (denS q), .string { data := #[] }, .bool false, .int .i64 0, .int .i64 0, .int .i64 0, .slice none 0 0]) ∧ Below W.heap.size W w'
theorem SH.at {a b c d q : Rat} (T : SH a b c d q) (W : World) (hE : Env W) : Calls Tryz.prog 9 #[.string { data := #[72, 89, 80, 71, 69, 79, 77, 68, 73, 83, 84] }, .slice (some ⟨W.heap.size, 0, none⟩) 4 4] (W.alloc (.cells #[.int .i64 1, .string (numS a), .string (denS a), .string { data := #[] }, .bool false, .int .i64 0, .int .i64 0, .int .i64 0, .slice none 0 0, .int .i64 1, .string (numS b), .string (denS b), .string { data := #[] }, .bool false, .int .i64 0, .int .i64 0, .int .i64 0, .slice none 0 0, .int .i64 1, .string (numS c), .string (denS c), .string { data := #[] }, .bool false, .int .i64 0, .int .i64 0, .int .i64 0, .slice none 0 0, .int .i64 1, .string (numS d), .string (denS d), .string { data := #[] }, .bool false, .int .i64 0, .int .i64 0, .int .i64 0, .slice none 0 0] 27)) fun e w' => e = .returned (.agg #[.int .i64 1, .string (numS q), .string (denS q), .string { data := #[] }, .bool false, .int .i64 0, .int .i64 0, .int .i64 0, .slice none 0 0]) ∧ Below W.heap.size W w' := by
  have hb : Below W.heap.size W (W.alloc (.cells #[.int .i64 1, .string (numS a), .string (denS a), .string { data := #[] }, .bool false, .int .i64 0, .int .i64 0, .int .i64 0, .slice none 0 0, .int .i64 1, .string (numS b), .string (denS b), .string { data := #[] }, .bool false, .int .i64 0, .int .i64 0, .int .i64 0, .slice none 0 0, .int .i64 1, .string (numS c), .string (denS c), .string { data := #[] }, .bool false, .int .i64 0, .int .i64 0, .int .i64 0, .slice none 0 0, .int .i64 1, .string (numS d), .string (denS d), .string { data := #[] }, .bool false, .int .i64 0, .int .i64 0, .int .i64 0, .slice none 0 0] 27)) := (Below.refl _ _).alloc (Nat.le_refl _) _
  exact (T _ _ (heap_alloc_new W _) (hE.below hb)).mono fun e w' h => ⟨h.1, hb.trans (h.2.mono hb.size)⟩
/-- what stays while the cases are gone through -/
structure WhI (w : World) (B9 B10 B11 : Nat) (x s h : Rat) (wx : World) : Prop where
  h9 : wx.heap[B9]? = some (.cells #[.int .i64 1, .string (numS x), .string (denS x), .string { data := #[] }, .bool false, .int .i64 0, .int .i64 0, .int .i64 0, .slice none 0 0] 27 (0, 0))
  h10 : wx.heap[B10]? = some (.cells #[.int .i64 1, .string (numS s), .string (denS s), .string { data := #[] }, .bool false, .int .i64 0, .int .i64 0, .int .i64 0, .slice none 0 0] 27 (0, 0))
  h11 : wx.heap[B11]? = some (.cells #[.int .i64 1, .string (numS h), .string (denS h), .string { data := #[] }, .bool false, .int .i64 0, .int .i64 0, .int .i64 0, .slice none 0 0] 27 (0, 0))
  low : Below w.heap.size w wx
attribute [local irreducible] wpOp
set_option linter.unusedVariables false in
/-- what the operations of region 9 yield -/
def WhKs9 (n m k B9 B10 B11 : Nat) (x s t h j a b c q g : Rat) : List RK :=
  [.pure (.int .i64 (k : Int)),
   .pure (.agg #[.int .i64 1, .string (numS a), .string (denS a), .string { data := #[] }, .bool false, .int .i64 0, .int .i64 0, .int .i64 0, .slice none 0 0]),
   .pure (.int .i64 (n : Int)),
   .pure (.agg #[.int .i64 1, .string (numS b), .string (denS b), .string { data := #[] }, .bool false, .int .i64 0, .int .i64 0, .int .i64 0, .slice none 0 0]),
   .pure (.agg #[.int .i64 1, .string (numS x), .string (denS x), .string { data := #[] }, .bool false, .int .i64 0, .int .i64 0, .int .i64 0, .slice none 0 0]),
   .pure (.agg #[.int .i64 3, .string { data := #[] }, .string { data := #[] }, .string { data := #[] }, .bool false, .int .i64 0, .int .i64 0, .int .i64 0, .slice none 0 0]),
   .row #[.int .i64 1, .string (numS a), .string (denS a), .string { data := #[] }, .bool false, .int .i64 0, .int .i64 0, .int .i64 0, .slice none 0 0, .int .i64 1, .string (numS b), .string (denS b), .string { data := #[] }, .bool false, .int .i64 0, .int .i64 0, .int .i64 0, .slice none 0 0, .int .i64 1, .string (numS x), .string (denS x), .string { data := #[] }, .bool false, .int .i64 0, .int .i64 0, .int .i64 0, .slice none 0 0, .int .i64 3, .string { data := #[] }, .string { data := #[] }, .string { data := #[] }, .bool false, .int .i64 0, .int .i64 0, .int .i64 0, .slice none 0 0] 27 4,
   .pure (.agg #[.int .i64 1, .string (numS q), .string (denS q), .string { data := #[] }, .bool false, .int .i64 0, .int .i64 0, .int .i64 0, .slice none 0 0]),
   .box none #[.int .i64 0, .string { data := #[] }, .string { data := #[] }, .string { data := #[] }, .bool false, .int .i64 0, .int .i64 0, .int .i64 0, .slice none 0 0] #[.int .i64 1, .string (numS q), .string (denS q), .string { data := #[] }, .bool false, .int .i64 0, .int .i64 0, .int .i64 0, .slice none 0 0] 27 9,
   .put 8]
set_option linter.unusedVariables false in
/-- what the operations of region 13 yield -/
def WhKs13 (n m k B9 B10 B11 : Nat) (x s t h j a b c q g : Rat) : List RK :=
  [.pure (.int .i64 (k : Int)),
   .pure (.agg #[.int .i64 1, .string (numS a), .string (denS a), .string { data := #[] }, .bool false, .int .i64 0, .int .i64 0, .int .i64 0, .slice none 0 0]),
   .pure (.int .i64 (n : Int)),
   .pure (.agg #[.int .i64 1, .string (numS b), .string (denS b), .string { data := #[] }, .bool false, .int .i64 0, .int .i64 0, .int .i64 0, .slice none 0 0]),
   .pure (.agg #[.int .i64 1, .string (numS x), .string (denS x), .string { data := #[] }, .bool false, .int .i64 0, .int .i64 0, .int .i64 0, .slice none 0 0]),
   .pure (.agg #[.int .i64 3, .string { data := #[] }, .string { data := #[] }, .string { data := #[] }, .bool true, .int .i64 0, .int .i64 0, .int .i64 0, .slice none 0 0]),
   .row #[.int .i64 1, .string (numS a), .string (denS a), .string { data := #[] }, .bool false, .int .i64 0, .int .i64 0, .int .i64 0, .slice none 0 0, .int .i64 1, .string (numS b), .string (denS b), .string { data := #[] }, .bool false, .int .i64 0, .int .i64 0, .int .i64 0, .slice none 0 0, .int .i64 1, .string (numS x), .string (denS x), .string { data := #[] }, .bool false, .int .i64 0, .int .i64 0, .int .i64 0, .slice none 0 0, .int .i64 3, .string { data := #[] }, .string { data := #[] }, .string { data := #[] }, .bool true, .int .i64 0, .int .i64 0, .int .i64 0, .slice none 0 0] 27 4,
   .pure (.agg #[.int .i64 1, .string (numS t), .string (denS t), .string { data := #[] }, .bool false, .int .i64 0, .int .i64 0, .int .i64 0, .slice none 0 0]),
   .pure (.agg #[.int .i64 1, .string (numS t), .string (denS t), .string { data := #[] }, .bool false, .int .i64 0, .int .i64 0, .int .i64 0, .slice none 0 0]),
   .pure (.bool true),
   .pure (.bool false)]
set_option linter.unusedVariables false in
/-- what the operations of region 20 yield -/
def WhKs20 (o : Rat) (B10 B11 : Nat) : List RK :=
  [.pure (.agg #[.int .i64 1, .string (numS o), .string (denS o), .string { data := #[] }, .bool false, .int .i64 0, .int .i64 0, .int .i64 0, .slice none 0 0]),
   .pure (.agg #[.int .i64 1, .string (numS o), .string (denS o), .string { data := #[] }, .bool false, .int .i64 0, .int .i64 0, .int .i64 0, .slice none 0 0]),
   .pure (.bool true),
   .pure (.bool true),
   .pure (.agg #[.int .i64 1, .string (numS o), .string (denS o), .string { data := #[] }, .bool false, .int .i64 0, .int .i64 0, .int .i64 0, .slice none 0 0]),
   .pure (.agg #[.int .i64 1, .string (numS o), .string (denS o), .string { data := #[] }, .bool false, .int .i64 0, .int .i64 0, .int .i64 0, .slice none 0 0]),
   .pure (.bool true),
   .pure (.bool true),
   .pure (.bool true)]
set_option linter.unusedSimpArgs false in
set_option linter.unusedVariables false in
set_option maxHeartbeats 16000000 in
set_option maxRecDepth 100000 in
theorem whole_walk (n0 p0 m0 : Int) (n p m : Nat) (x z o th : Rat) (K S H P G : Nat → Rat) (w : World) (hE : EnvY w)
    (h0 : -9223372036854775808 ≤ n0 ∧ n0 ≤ 9223372036854775807)
    (h1 : -9223372036854775808 ≤ p0 ∧ p0 ≤ 9223372036854775807)
    (h2 : -9223372036854775808 ≤ m0 ∧ m0 ≤ 9223372036854775807)
    (hn : 1 + n0 % 20 = (n : Int))
    (hp : p0 % 11 = (p : Int))
    (hm : m0 % ((n : Int) + 1) = (m : Int))
    (hn1 : 1 ≤ n)
    (hn2 : n ≤ 20)
    (hm2 : m ≤ n)
    (tR : Fun2 15 (.int .i64 (p : Int)) (.int .i64 10) (.tuple #[.agg #[.string (numS x), .string (denS x)], .int .i64 0]))
    (tN : Fun1 16 (.agg #[.string (numS x), .string (denS x)]) (.agg #[.int .i64 1, .string (numS x), .string (denS x), .string { data := #[] }, .bool false, .int .i64 0, .int .i64 0, .int .i64 0, .slice none 0 0]))
    (tZ : Fun1 10 (.int .i64 0) (.agg #[.int .i64 1, .string (numS z), .string (denS z), .string { data := #[] }, .bool false, .int .i64 0, .int .i64 0, .int .i64 0, .slice none 0 0]))
    (tO : Fun1 10 (.int .i64 1) (.agg #[.int .i64 1, .string (numS o), .string (denS o), .string { data := #[] }, .bool false, .int .i64 0, .int .i64 0, .int .i64 0, .slice none 0 0]))
    (tT : Fun1 10 (.int .i64 30) (.agg #[.int .i64 1, .string (numS th), .string (denS th), .string { data := #[] }, .bool false, .int .i64 0, .int .i64 0, .int .i64 0, .slice none 0 0]))
    (tK : ∀ k : Nat, k ≤ n → Fun1 10 (.int .i64 (k : Int)) (numVal (K k)))
    (hS0 : S 0 = z ∧ H 0 = z)
    (hSn : S (n + 1) = o ∧ H (n + 1) = o)
    (sB : ∀ k : Nat, k ≤ n → SB false (K k) (K n) x (P k) ∧ SB true (K k) (K n) x (S (k + 1)))
    (tP : ∀ k : Nat, k ≤ n → Fun2 8 (numVal (S k)) (numVal (P k)) (numVal (S (k + 1))))
    (sH : ∀ k : Nat, k ≤ n → k ≤ m → n - k ≤ 30 - m → SH (K k) (K n) (K m) th (G k) ∧ Fun2 8 (numVal (H k)) (numVal (G k)) (numVal (H (k + 1))))
    (hH : ∀ k : Nat, k ≤ n → ¬ (k ≤ m ∧ n - k ≤ 30 - m) → H (k + 1) = H k) :
    Calls Tryz.prog 5 #[.int .i64 n0, .int .i64 p0, .int .i64 m0] w fun e w' => e = .returned (.bool true) ∧ Below w.heap.size w w' := by
  have Qhn := Lib.hid hn
  have Qhp := Lib.hid hp
  have Qhm := Lib.hid hm
  have QtR := Lib.hid tR
  have QtN := Lib.hid tN
  have QtZ := Lib.hid tZ
  have QtO := Lib.hid tO
  have QtT := Lib.hid tT
  have QtK := Lib.hid tK
  have QhS0 := Lib.hid hS0
  have QhSn := Lib.hid hSn
  have QsB := Lib.hid sB
  have QtP := Lib.hid tP
  have QsH := Lib.hid sH
  have QhH := Lib.hid hH
  unfold Fun1 at QtN QtZ QtO QtT
  unfold Fun2 at QtR
  have TM0 := Lib.hid (fun W => kmod_any n0 20 h0.1 h0.2 (by decide) (by decide) W)
  have TM1 := Lib.hid (fun W => kmod_any p0 11 h1.1 h1.2 (by decide) (by decide) W)
  have TM2 := Lib.hid (fun W => kmod_any m0 ((n : Int) + 1) h2.1 h2.2 (by omega) (by omega) W)
  rw [hp] at TM1
  rw [hm] at TM2
  have hwn : IntKind.i64.wrap (1 + n0 % 20) = (n : Int) := by rw [hn]; exact IntWalk.i64_in _ (by omega)
  have hw1 : IntKind.i64.wrap ((n : Int) + 1) = (n : Int) + 1 := IntWalk.i64_in _ (by omega)
  have TB := Lib.hid (fun (o : Bool) W => bool_B o W)
  have HEW := Lib.hid hE
  have HE := Lib.hid hE
  have HL := Lib.hid (Below.refl w.heap.size w)
  clear hE h0 h1 h2 hn hp hm tR tN tZ tO tT tK hS0 hSn sB tP sH hH
  go_enter Tryz.func5, Tryz.ntmps5
  go_wp2_with fail
  refine (TM0.out _).mono ?_
  rintro e w1 ⟨rfl, hws⟩
  replace hws := hws.symm
  subst hws
  go_wp2_with fail
  refine (TM1.out _).mono ?_
  rintro e w2 ⟨rfl, hws⟩
  replace hws := hws.symm
  subst hws
  go_wp2_with fail
  (with_reducible refine (QtR.out _ HE.out).mono ?_)
  rintro e w3 ⟨rfl, hq⟩
  replace HE := Lib.hid (HE.out.below hq)
  replace HL := Lib.hid (HL.out.trans (hq.mono HL.out.size))
  clear hq
  have hq : Below w3.heap.size w3 (w3.alloc (.cells #[.string (numS x), .string (denS x)] 24)) := ((Below.refl _ _).alloc (Nat.le_refl _) _)
  replace HE := Lib.hid (HE.out.below hq)
  replace HL := Lib.hid (HL.out.trans (hq.mono HL.out.size))
  have H7 : Hid ((w3.alloc (.cells #[.string (numS x), .string (denS x)] 24)).heap[w3.heap.size]? = some (.cells #[.string (numS x), .string (denS x)] 24 (0, 0))) := Lib.hid (by
    have h := heap_alloc_new w3 (.cells #[.string (numS x), .string (denS x)] 24)
    exact h)
  clear hq
  obtain ⟨WL1, hWL1⟩ : ∃ Z, (w3.alloc (.cells #[.string (numS x), .string (denS x)] 24)) = Z := ⟨_, rfl⟩
  rw [hWL1] at HE HL H7
  have EWL1 := Lib.hid hWL1
  clear hWL1
  have SWL1 : Hid (w3.heap.size + 1 = WL1.heap.size) := Lib.hid (by rw [← EWL1.out]; simp only [World.size_alloc])
  go_upto_region 3 with fail
  rw [EWL1.out]
  obtain ⟨⟨lH70, lH71⟩, _⟩ := two_at H7.out
  go_wp2_with fail
  (with_reducible refine (QtN.out _ HE.out).mono ?_)
  rintro e w4 ⟨rfl, hq⟩
  replace HE := Lib.hid (HE.out.below hq)
  replace HL := Lib.hid (HL.out.trans (hq.mono HL.out.size))
  replace H7 := Lib.hid (keep_block H7.out hq)
  clear hq
  clear lH70 lH71
  have hq : Below w4.heap.size w4 (w4.alloc (.cells #[.int .i64 1, .string (numS x), .string (denS x), .string { data := #[] }, .bool false, .int .i64 0, .int .i64 0, .int .i64 0, .slice none 0 0] 27)) := ((Below.refl _ _).alloc (Nat.le_refl _) _)
  replace HE := Lib.hid (HE.out.below hq)
  replace HL := Lib.hid (HL.out.trans (hq.mono HL.out.size))
  replace H7 := Lib.hid (keep_block H7.out hq)
  have H9 : Hid ((w4.alloc (.cells #[.int .i64 1, .string (numS x), .string (denS x), .string { data := #[] }, .bool false, .int .i64 0, .int .i64 0, .int .i64 0, .slice none 0 0] 27)).heap[w4.heap.size]? = some (.cells #[.int .i64 1, .string (numS x), .string (denS x), .string { data := #[] }, .bool false, .int .i64 0, .int .i64 0, .int .i64 0, .slice none 0 0] 27 (0, 0))) := Lib.hid (by
    have h := heap_alloc_new w4 (.cells #[.int .i64 1, .string (numS x), .string (denS x), .string { data := #[] }, .bool false, .int .i64 0, .int .i64 0, .int .i64 0, .slice none 0 0] 27)
    exact h)
  clear hq
  obtain ⟨WL2, hWL2⟩ : ∃ Z, (w4.alloc (.cells #[.int .i64 1, .string (numS x), .string (denS x), .string { data := #[] }, .bool false, .int .i64 0, .int .i64 0, .int .i64 0, .slice none 0 0] 27)) = Z := ⟨_, rfl⟩
  rw [hWL2] at HE HL H7 H9
  have EWL2 := Lib.hid hWL2
  clear hWL2
  have SWL2 : Hid (w4.heap.size + 1 = WL2.heap.size) := Lib.hid (by rw [← EWL2.out]; simp only [World.size_alloc])
  go_upto_region 4 with fail
  rw [EWL2.out]
  go_wp2_with fail
  refine (TM2.out _).mono ?_
  rintro e w5 ⟨rfl, hws⟩
  replace hws := hws.symm
  subst hws
  go_wp2_with fail
  (with_reducible refine (QtZ.out _ HE.out).mono ?_)
  rintro e w6 ⟨rfl, hq⟩
  replace HE := Lib.hid (HE.out.below hq)
  replace HL := Lib.hid (HL.out.trans (hq.mono HL.out.size))
  replace H7 := Lib.hid (keep_block H7.out hq)
  replace H9 := Lib.hid (keep_block H9.out hq)
  clear hq
  go_wp2_with fail
  (with_reducible refine (QtZ.out _ HE.out).mono ?_)
  rintro e w7 ⟨rfl, hq⟩
  replace HE := Lib.hid (HE.out.below hq)
  replace HL := Lib.hid (HL.out.trans (hq.mono HL.out.size))
  replace H7 := Lib.hid (keep_block H7.out hq)
  replace H9 := Lib.hid (keep_block H9.out hq)
  clear hq
  have K9 := Lib.hid H9.out
  have HLK := Lib.hid HL.out
  have hq : Below w7.heap.size w7 ((w7.alloc (.cells #[.int .i64 1, .string (numS z), .string (denS z), .string { data := #[] }, .bool false, .int .i64 0, .int .i64 0, .int .i64 0, .slice none 0 0] 27)).alloc (.cells #[.int .i64 1, .string (numS z), .string (denS z), .string { data := #[] }, .bool false, .int .i64 0, .int .i64 0, .int .i64 0, .slice none 0 0] 27)) := (((Below.refl _ _).alloc (Nat.le_refl _) _).alloc (by simp only [World.size_alloc]; omega) _)
  replace HE := Lib.hid (HE.out.below hq)
  replace HL := Lib.hid (HL.out.trans (hq.mono HL.out.size))
  replace H7 := Lib.hid (keep_block H7.out hq)
  replace H9 := Lib.hid (keep_block H9.out hq)
  have H10 : Hid (((w7.alloc (.cells #[.int .i64 1, .string (numS z), .string (denS z), .string { data := #[] }, .bool false, .int .i64 0, .int .i64 0, .int .i64 0, .slice none 0 0] 27)).alloc (.cells #[.int .i64 1, .string (numS z), .string (denS z), .string { data := #[] }, .bool false, .int .i64 0, .int .i64 0, .int .i64 0, .slice none 0 0] 27)).heap[w7.heap.size]? = some (.cells #[.int .i64 1, .string (numS z), .string (denS z), .string { data := #[] }, .bool false, .int .i64 0, .int .i64 0, .int .i64 0, .slice none 0 0] 27 (0, 0))) := Lib.hid (by
    have h := heap_alloc_new w7 (.cells #[.int .i64 1, .string (numS z), .string (denS z), .string { data := #[] }, .bool false, .int .i64 0, .int .i64 0, .int .i64 0, .slice none 0 0] 27)
    exact new_keep (h))
  have H11 : Hid (((w7.alloc (.cells #[.int .i64 1, .string (numS z), .string (denS z), .string { data := #[] }, .bool false, .int .i64 0, .int .i64 0, .int .i64 0, .slice none 0 0] 27)).alloc (.cells #[.int .i64 1, .string (numS z), .string (denS z), .string { data := #[] }, .bool false, .int .i64 0, .int .i64 0, .int .i64 0, .slice none 0 0] 27)).heap[w7.heap.size + 1]? = some (.cells #[.int .i64 1, .string (numS z), .string (denS z), .string { data := #[] }, .bool false, .int .i64 0, .int .i64 0, .int .i64 0, .slice none 0 0] 27 (0, 0))) := Lib.hid (by
    have h := heap_alloc_new (w7.alloc (.cells #[.int .i64 1, .string (numS z), .string (denS z), .string { data := #[] }, .bool false, .int .i64 0, .int .i64 0, .int .i64 0, .slice none 0 0] 27)) (.cells #[.int .i64 1, .string (numS z), .string (denS z), .string { data := #[] }, .bool false, .int .i64 0, .int .i64 0, .int .i64 0, .slice none 0 0] 27)
    simp only [World.size_alloc] at h
    exact h)
  clear hq
  obtain ⟨WL3, hWL3⟩ : ∃ Z, ((w7.alloc (.cells #[.int .i64 1, .string (numS z), .string (denS z), .string { data := #[] }, .bool false, .int .i64 0, .int .i64 0, .int .i64 0, .slice none 0 0] 27)).alloc (.cells #[.int .i64 1, .string (numS z), .string (denS z), .string { data := #[] }, .bool false, .int .i64 0, .int .i64 0, .int .i64 0, .slice none 0 0] 27)) = Z := ⟨_, rfl⟩
  rw [hWL3] at HE HL H7 H9 H10 H11
  have EWL3 := Lib.hid hWL3
  clear hWL3
  have SWL3 : Hid (w7.heap.size + 1 + 1 = WL3.heap.size) := Lib.hid (by rw [← EWL3.out]; simp only [World.size_alloc])
  go_wp2_with fail
  rw [EWL3.out]
  have L10_9 := Lib.hid (show w4.heap.size < w7.heap.size from by have h := heap_lt K9.out; omega)
  obtain ⟨B9, hB9⟩ : ∃ z, w4.heap.size = z := ⟨_, rfl⟩
  obtain ⟨B10, hB10⟩ : ∃ z, w7.heap.size = z := ⟨_, rfl⟩
  obtain ⟨B11, hB11⟩ : ∃ z, w7.heap.size + 1 = z := ⟨_, rfl⟩
  rw [hB9] at H9 L10_9 ⊢
  have L11_10 := Lib.hid (show B10 < B11 from by omega)
  rw [hB11] at H11 ⊢
  rw [hB10] at H10 L10_9 ⊢
  have G10 := Lib.hid (show w.heap.size ≤ B10 from by have := HLK.out.size; omega)
  clear hB9 hB10 hB11 K9 HLK
  go_loopg [34] (n + 1) (fun gh v34 wx => ∃ k : Nat, v34 = .int .i64 (k : Int) ∧ k ≤ n + 1 ∧ gh = n + 1 - k ∧ WhI w B9 B10 B11 x (S k) (H k) wx)
  case atStart => exact ⟨0, rfl, Nat.zero_le _, rfl, ⟨H9.out, by rw [QhS0.out.1]; exact H10.out, by rw [QhS0.out.2]; exact H11.out, HL.out⟩⟩
  case round =>
    clear H7 H9 H10 H11 HE HL
    obtain ⟨k, rfl, hk, hgk, hI⟩ := hrel
    have H9 := Lib.hid hI.h9
    have H10 := Lib.hid hI.h10
    have H11 := Lib.hid hI.h11
    have HL := Lib.hid hI.low
    have HE := Lib.hid (HEW.out.below hI.low)
    clear hI
    by_cases hlt : k ≤ n
    · have hd : decide ((k : Int) < (n : Int) + 1) = true := decide_eq_true (by omega)
      have hd2 : decide (k < n + 1) = true := decide_eq_true (by omega)
      have hd3 : decide (k ≤ n) = true := decide_eq_true hlt
      have hwk : IntKind.i64.wrap ((k : Int) + 1) = (k : Int) + 1 := IntWalk.i64_in _ (by omega)
      have hwa : IntKind.i64.wrap ((n : Int) - (k : Int)) = (n : Int) - (k : Int) := IntWalk.i64_in _ (by omega)
      have hwb : IntKind.i64.wrap (30 - (m : Int)) = 30 - (m : Int) := IntWalk.i64_in _ (by omega)
      have TK1 := Lib.hid (QtK.out k hlt)
      have TK2 := Lib.hid (QtK.out n (Nat.le_refl _))
      have TK3 := Lib.hid (QtK.out m hm2)
      have TB1 := Lib.hid (QsB.out k hlt).1
      have TB2 := Lib.hid (QsB.out k hlt).2
      have TP := Lib.hid (QtP.out k hlt)
      have TH := Lib.hid (QsH.out k hlt)
      have THH := Lib.hid (QhH.out k hlt)
      obtain ⟨s, hs⟩ : ∃ q, S k = q := ⟨_, rfl⟩
      obtain ⟨t, ht⟩ : ∃ q, S (k + 1) = q := ⟨_, rfl⟩
      obtain ⟨h, hh⟩ : ∃ q, H k = q := ⟨_, rfl⟩
      obtain ⟨j, hj⟩ : ∃ q, H (k + 1) = q := ⟨_, rfl⟩
      obtain ⟨a, hka⟩ : ∃ q, K k = q := ⟨_, rfl⟩
      obtain ⟨b, hkb⟩ : ∃ q, K n = q := ⟨_, rfl⟩
      obtain ⟨c, hkc⟩ : ∃ q, K m = q := ⟨_, rfl⟩
      obtain ⟨q, hq⟩ : ∃ q, P k = q := ⟨_, rfl⟩
      obtain ⟨g, hg⟩ : ∃ q, G k = q := ⟨_, rfl⟩
      rw [hka] at TK1 TB1 TB2 TH
      rw [hkb] at TK2 TB1 TB2 TH
      rw [hkc] at TK3 TH
      rw [hq] at TB1 TP
      rw [hs] at TP H10
      rw [ht] at TP TB2
      rw [hh] at TH THH H11
      rw [hj] at TH THH
      rw [hg] at TH
      have HT := Lib.hid (And.intro ht hj)
      rw [numVal_is a] at TK1
      rw [numVal_is b] at TK2
      rw [numVal_is c] at TK3
      rw [numVal_is s, numVal_is q, numVal_is t] at TP
      rw [numVal_is h, numVal_is g, numVal_is j] at TH
      unfold Fun1 at TK1 TK2 TK3
      unfold Fun2 at TP
      clear hs ht hh hj hka hkb hkc hq hg
      go_upto_region 9 with fail
      go_wp2_with fail
      have hok : okB 10 (WhKs9 n m k B9 B10 B11 x s t h j a b c q g) = true := by kernel_rfl
      have hna := noAny_of (ks := (WhKs9 n m k B9 B10 B11 x s t h j a b c q g)) (by kernel_rfl)
      have hla := lasts_of hna
      refine wp_region_facts (row := none) (w := wr) 10 (WhKs9 n m k B9 B10 B11 x s t h j a b c q g) [some 37, some 38, some 39, some 40, some 41, some 42, some 43, some 44, some 13, none] (by kernel_rfl) (by kernel_rfl) rfl [u37, u38, u39, u40, u41, u42, u43, u44, u13, undef] ?h00 (Fs.start rfl rfl) ?hs ?hd
      case h00 => simp only [putO, layL]
      case hs =>
        rintro listed vs Wr hF i hi hun hpre
        obtain ⟨s0, s1, s2, s3, s4, s5, s6, s7, s8, s9, hvs⟩ := exl_of 10 vs (fun l => vs = l) hF.len rfl
        subst hvs
        have hge := Nat.zero_le i
        simp only [putO, layL]
        rcases Nat.lt_or_ge i 5 with hlt | hgt
        · replace hi := hlt
          clear hlt
          rcases Nat.lt_or_ge i 2 with hlt | hgt
          · replace hi := hlt
            clear hlt
            rcases Nat.lt_or_ge i 1 with hlt | hgt
            · replace hi := hlt
              clear hlt
              obtain rfl := eqi hi hge
              refine step_of ⟨some 37, _, _, _, _, _⟩ rfl (fun K' hK => ?_)
              go_simp
              refine hK.out _ _ ⟨_, hF.pure hok hla hpre rfl (Below.refl _ _), ?fr⟩
              case fr => simp only [putO, layL]
            · replace hge : 1 ≤ i := hgt
              clear hgt
              obtain rfl := eqi hi hge
              have p0 := hpre 0 (by kernel_rfl)
              have e0 : s0 = .int .i64 (k : Int) := hF.get 0 _ rfl (.inr p0)
              subst e0
              refine step_of ⟨some 38, _, _, _, _, _⟩ rfl (fun K' hK => ?_)
              go_simp
              go_at_call 10
              (with_reducible refine (TK1.out _ (HE.out.below (below_none hF.low))).mono ?_)
              rintro e Wq ⟨rfl, hq⟩
              refine hK.out _ _ ⟨_, hF.pure hok hla hpre rfl hq, ?fr⟩
              case fr => simp only [putO, layL]
          · replace hge : 2 ≤ i := hgt
            clear hgt
            rcases Nat.lt_or_ge i 3 with hlt | hgt
            · replace hi := hlt
              clear hlt
              obtain rfl := eqi hi hge
              refine step_of ⟨some 39, _, _, _, _, _⟩ rfl (fun K' hK => ?_)
              go_simp
              refine hK.out _ _ ⟨_, hF.pure hok hla hpre rfl (Below.refl _ _), ?fr⟩
              case fr => simp only [putO, layL]
            · replace hge : 3 ≤ i := hgt
              clear hgt
              rcases Nat.lt_or_ge i 4 with hlt | hgt
              · replace hi := hlt
                clear hlt
                obtain rfl := eqi hi hge
                have p2 := hpre 2 (by kernel_rfl)
                have e2 : s2 = .int .i64 (n : Int) := hF.get 2 _ rfl (.inr p2)
                subst e2
                refine step_of ⟨some 40, _, _, _, _, _⟩ rfl (fun K' hK => ?_)
                go_simp
                go_at_call 10
                (with_reducible refine (TK2.out _ (HE.out.below (below_none hF.low))).mono ?_)
                rintro e Wq ⟨rfl, hq⟩
                refine hK.out _ _ ⟨_, hF.pure hok hla hpre rfl hq, ?fr⟩
                case fr => simp only [putO, layL]
              · replace hge : 4 ≤ i := hgt
                clear hgt
                obtain rfl := eqi hi hge
                have hcc := (nine_at (keep_block H9.out (below_none hF.low))).1
                have cH90 := hcc.1
                have cH91 := hcc.2.1
                have cH92 := hcc.2.2.1
                have cH93 := hcc.2.2.2.1
                have cH94 := hcc.2.2.2.2.1
                have cH95 := hcc.2.2.2.2.2.1
                have cH96 := hcc.2.2.2.2.2.2.1
                have cH97 := hcc.2.2.2.2.2.2.2.1
                have cH98 := hcc.2.2.2.2.2.2.2.2
                clear hcc
                refine step_of ⟨some 41, _, _, _, _, _⟩ rfl (fun K' hK => ?_)
                go_simp
                refine hK.out _ _ ⟨_, hF.pure hok hla hpre rfl (Below.refl _ _), ?fr⟩
                case fr => simp only [putO, layL]
        · replace hge : 5 ≤ i := hgt
          clear hgt
          rcases Nat.lt_or_ge i 7 with hlt | hgt
          · replace hi := hlt
            clear hlt
            rcases Nat.lt_or_ge i 6 with hlt | hgt
            · replace hi := hlt
              clear hlt
              obtain rfl := eqi hi hge
              refine step_of ⟨some 42, _, _, _, _, _⟩ rfl (fun K' hK => ?_)
              go_simp
              go_at_call 17
              (with_reducible refine (TB.out false _).mono ?_)
              rintro e Wq ⟨rfl, hq⟩
              refine hK.out _ _ ⟨_, hF.pure hok hla hpre rfl hq, ?fr⟩
              case fr => simp only [putO, layL]
            · replace hge : 6 ≤ i := hgt
              clear hgt
              obtain rfl := eqi hi hge
              have p1 := hpre 1 (by kernel_rfl)
              have e1 : s1 = .agg #[.int .i64 1, .string (numS a), .string (denS a), .string { data := #[] }, .bool false, .int .i64 0, .int .i64 0, .int .i64 0, .slice none 0 0] := hF.get 1 _ rfl (.inr p1)
              subst e1
              have p3 := hpre 3 (by kernel_rfl)
              have e3 : s3 = .agg #[.int .i64 1, .string (numS b), .string (denS b), .string { data := #[] }, .bool false, .int .i64 0, .int .i64 0, .int .i64 0, .slice none 0 0] := hF.get 3 _ rfl (.inr p3)
              subst e3
              have p4 := hpre 4 (by kernel_rfl)
              have e4 : s4 = .agg #[.int .i64 1, .string (numS x), .string (denS x), .string { data := #[] }, .bool false, .int .i64 0, .int .i64 0, .int .i64 0, .slice none 0 0] := hF.get 4 _ rfl (.inr p4)
              subst e4
              have p5 := hpre 5 (by kernel_rfl)
              have e5 : s5 = .agg #[.int .i64 3, .string { data := #[] }, .string { data := #[] }, .string { data := #[] }, .bool false, .int .i64 0, .int .i64 0, .int .i64 0, .slice none 0 0] := hF.get 5 _ rfl (.inr p5)
              subst e5
              refine step_of ⟨some 43, _, _, _, _, _⟩ rfl (fun K' hK => ?_)
              go_simp
              refine hK.out _ _ ⟨_, hF.row hok hla hpre rfl, ?fr⟩
              case fr => simp only [putO, layL]
          · replace hge : 7 ≤ i := hgt
            clear hgt
            rcases Nat.lt_or_ge i 8 with hlt | hgt
            · replace hi := hlt
              clear hlt
              obtain rfl := eqi hi hge
              have p6 := hpre 6 (by kernel_rfl)
              obtain ⟨G, eG, _, hGB⟩ : ∃ G, s6 = .slice (some ⟨G, 0, none⟩) 4 4 ∧ _ ≤ G ∧ Wr.heap[G]? = some (.cells #[.int .i64 1, .string (numS a), .string (denS a), .string { data := #[] }, .bool false, .int .i64 0, .int .i64 0, .int .i64 0, .slice none 0 0, .int .i64 1, .string (numS b), .string (denS b), .string { data := #[] }, .bool false, .int .i64 0, .int .i64 0, .int .i64 0, .slice none 0 0, .int .i64 1, .string (numS x), .string (denS x), .string { data := #[] }, .bool false, .int .i64 0, .int .i64 0, .int .i64 0, .slice none 0 0, .int .i64 3, .string { data := #[] }, .string { data := #[] }, .string { data := #[] }, .bool false, .int .i64 0, .int .i64 0, .int .i64 0, .slice none 0 0] 27 (0, 0)) := hF.get 6 _ rfl (.inr p6)
              subst eG
              refine step_of ⟨some 44, _, _, _, _, _⟩ rfl (fun K' hK => ?_)
              go_simp
              go_at_call 9
              (with_reducible refine (SB.on TB1.out _ _ hGB (HE.out.below (below_none hF.low))).mono ?_)
              rintro e Wq ⟨rfl, hq⟩
              refine hK.out _ _ ⟨_, hF.pure hok hla hpre rfl hq, ?fr⟩
              case fr => simp only [putO, layL]
            · replace hge : 8 ≤ i := hgt
              clear hgt
              rcases Nat.lt_or_ge i 9 with hlt | hgt
              · replace hi := hlt
                clear hlt
                obtain rfl := eqi hi hge
                refine step_of ⟨some 13, _, _, _, _, _⟩ rfl (fun K' hK => ?_)
                go_simp
                refine hK.out _ _ ⟨_, hF.box hok hla hpre hun rfl, ?fr⟩
                case fr => simp only [putO, layL]
              · replace hge : 9 ≤ i := hgt
                clear hgt
                obtain rfl := eqi hi hge
                have p8 := hpre 8 (by kernel_rfl)
                obtain ⟨G, eG, _, hGl, hGB⟩ : ∃ G, s8 = .pointer (some ⟨G, 0, none⟩) ∧ (∀ k, none = some k → G = k) ∧ wr.heap.size ≤ G ∧ Wr.heap[G]? = some (.cells (if listed.getD 9 false = true then #[.int .i64 1, .string (numS q), .string (denS q), .string { data := #[] }, .bool false, .int .i64 0, .int .i64 0, .int .i64 0, .slice none 0 0] else #[.int .i64 0, .string { data := #[] }, .string { data := #[] }, .string { data := #[] }, .bool false, .int .i64 0, .int .i64 0, .int .i64 0, .slice none 0 0]) 27 (0, 0)) := hF.get 8 _ rfl (.inr p8)
                subst eG
                rw [if_neg (bit_off hun)] at hGB
                have HGB := Lib.hid hGB
                clear hGB
                have p7 := hpre 7 (by kernel_rfl)
                have e7 : s7 = .agg #[.int .i64 1, .string (numS q), .string (denS q), .string { data := #[] }, .bool false, .int .i64 0, .int .i64 0, .int .i64 0, .slice none 0 0] := hF.get 7 _ rfl (.inr p7)
                subst e7
                obtain ⟨⟨y0, y1, y2, y3, y4, y5, y6, y7, y8⟩, g0, g1, g2, g3, g4, g5, g6, g7, g8⟩ := nine_at HGB.out
                refine step_of ⟨none, _, _, _, _, _⟩ rfl (fun K' hK => ?_)
                go_simp
                refine hK.out _ _ ⟨undef, hF.put hok hna hpre hun rfl undef rfl (.inr p8) rfl (set9_at HGB.out (.int .i64 1) (.string (numS q)) (.string (denS q)) (.string { data := #[] }) (.bool false) (.int .i64 0) (.int .i64 0) (.int .i64 0) (.slice none 0 0)) (fun k hk => set9_other _ _ (.int .i64 1) (.string (numS q)) (.string (denS q)) (.string { data := #[] }) (.bool false) (.int .i64 0) (.int .i64 0) (.int .i64 0) (.slice none 0 0) hk) (put9_below hGl _ (.int .i64 1) (.string (numS q)) (.string (denS q)) (.string { data := #[] }) (.bool false) (.int .i64 0) (.int .i64 0) (.int .i64 0) (.slice none 0 0)), ?fr⟩
                case fr => simp only [putO, layL]
      case hd =>
        rintro listed vs WA hF hall
        obtain ⟨s0, s1, s2, s3, s4, s5, s6, s7, s8, s9, hvs⟩ := exl_of 10 vs (fun l => vs = l) hF.len rfl
        subst hvs
        obtain ⟨b13, e8, _, gq, k8⟩ : ∃ G, s8 = .pointer (some ⟨G, 0, none⟩) ∧ (∀ k, none = some k → G = k) ∧ _ ≤ G ∧ WA.heap[G]? = some (.cells (if listed.getD 9 false = true then #[.int .i64 1, .string (numS q), .string (denS q), .string { data := #[] }, .bool false, .int .i64 0, .int .i64 0, .int .i64 0, .slice none 0 0] else #[.int .i64 0, .string { data := #[] }, .string { data := #[] }, .string { data := #[] }, .bool false, .int .i64 0, .int .i64 0, .int .i64 0, .slice none 0 0]) 27 (0, 0)) := hF.get 8 _ rfl (.inr (hall 8 (by decide)))
        subst e8
        rw [if_pos (hall 9 (by decide))] at k8
        have H13 := Lib.hid k8
        clear k8 gq
        have hq := below_none hF.low
        replace HE := Lib.hid (HE.out.below hq)
        replace HL := Lib.hid (HL.out.trans (hq.mono HL.out.size))
        replace H9 := Lib.hid (keep_block H9.out hq)
        replace H10 := Lib.hid (keep_block H10.out hq)
        replace H11 := Lib.hid (keep_block H11.out hq)
        clear hq
        clear hF hall hok hna hla
        simp only [putO, layL]
        obtain ⟨⟨lH130, lH131, lH132, lH133, lH134, lH135, lH136, lH137, lH138⟩, _⟩ := nine_at H13.out
        go_upto_region 12 with fail
        clear lH130 lH131 lH132 lH133 lH134 lH135 lH136 lH137 lH138
        obtain ⟨⟨lH100, lH101, lH102, lH103, lH104, lH105, lH106, lH107, lH108⟩, _⟩ := nine_at H10.out
        obtain ⟨⟨lH130, lH131, lH132, lH133, lH134, lH135, lH136, lH137, lH138⟩, _⟩ := nine_at H13.out
        go_wp2_with fail
        (with_reducible refine (TP.out _ HE.out).mono ?_)
        rintro e w8 ⟨rfl, hq⟩
        replace HE := Lib.hid (HE.out.below hq)
        replace HL := Lib.hid (HL.out.trans (hq.mono HL.out.size))
        replace H9 := Lib.hid (keep_block H9.out hq)
        replace H10 := Lib.hid (keep_block H10.out hq)
        replace H11 := Lib.hid (keep_block H11.out hq)
        replace H13 := Lib.hid (keep_block H13.out hq)
        clear hq
        clear lH100 lH101 lH102 lH103 lH104 lH105 lH106 lH107 lH108 lH130 lH131 lH132 lH133 lH134 lH135 lH136 lH137 lH138
        clear H13
        obtain ⟨⟨y0, y1, y2, y3, y4, y5, y6, y7, y8⟩, f0, f1, f2, f3, f4, f5, f6, f7, f8⟩ := nine_at H10.out
        have k9 : (((((((((w8.setCell ⟨B10, 0, none⟩ (.int .i64 1)).setCell ⟨B10, 1, none⟩ (.string (numS t))).setCell ⟨B10, 2, none⟩ (.string (denS t))).setCell ⟨B10, 3, none⟩ (.string { data := #[] })).setCell ⟨B10, 4, none⟩ (.bool false)).setCell ⟨B10, 5, none⟩ (.int .i64 0)).setCell ⟨B10, 6, none⟩ (.int .i64 0)).setCell ⟨B10, 7, none⟩ (.int .i64 0)).setCell ⟨B10, 8, none⟩ (.slice none 0 0)).heap[B9]? = some (.cells #[.int .i64 1, .string (numS x), .string (denS x), .string { data := #[] }, .bool false, .int .i64 0, .int .i64 0, .int .i64 0, .slice none 0 0] 27 (0, 0)) := (set9_other w8 B10 (.int .i64 1) (.string (numS t)) (.string (denS t)) (.string { data := #[] }) (.bool false) (.int .i64 0) (.int .i64 0) (.int .i64 0) (.slice none 0 0) (show B9 ≠ B10 from by have := L10_9.out; have := L11_10.out; skip; omega)).trans H9.out
        have k11 : (((((((((w8.setCell ⟨B10, 0, none⟩ (.int .i64 1)).setCell ⟨B10, 1, none⟩ (.string (numS t))).setCell ⟨B10, 2, none⟩ (.string (denS t))).setCell ⟨B10, 3, none⟩ (.string { data := #[] })).setCell ⟨B10, 4, none⟩ (.bool false)).setCell ⟨B10, 5, none⟩ (.int .i64 0)).setCell ⟨B10, 6, none⟩ (.int .i64 0)).setCell ⟨B10, 7, none⟩ (.int .i64 0)).setCell ⟨B10, 8, none⟩ (.slice none 0 0)).heap[B11]? = some (.cells #[.int .i64 1, .string (numS h), .string (denS h), .string { data := #[] }, .bool false, .int .i64 0, .int .i64 0, .int .i64 0, .slice none 0 0] 27 (0, 0)) := (set9_other w8 B10 (.int .i64 1) (.string (numS t)) (.string (denS t)) (.string { data := #[] }) (.bool false) (.int .i64 0) (.int .i64 0) (.int .i64 0) (.slice none 0 0) (show B11 ≠ B10 from by have := L10_9.out; have := L11_10.out; skip; omega)).trans H11.out
        have knew := set9_at H10.out (.int .i64 1) (.string (numS t)) (.string (denS t)) (.string { data := #[] }) (.bool false) (.int .i64 0) (.int .i64 0) (.int .i64 0) (.slice none 0 0)
        have kgr : Below w.heap.size w (((((((((w8.setCell ⟨B10, 0, none⟩ (.int .i64 1)).setCell ⟨B10, 1, none⟩ (.string (numS t))).setCell ⟨B10, 2, none⟩ (.string (denS t))).setCell ⟨B10, 3, none⟩ (.string { data := #[] })).setCell ⟨B10, 4, none⟩ (.bool false)).setCell ⟨B10, 5, none⟩ (.int .i64 0)).setCell ⟨B10, 6, none⟩ (.int .i64 0)).setCell ⟨B10, 7, none⟩ (.int .i64 0)).setCell ⟨B10, 8, none⟩ (.slice none 0 0)) := HL.out.trans (put9_below (show w.heap.size ≤ B10 from by have := G10.out; have := L11_10.out; omega) w8 (.int .i64 1) (.string (numS t)) (.string (denS t)) (.string { data := #[] }) (.bool false) (.int .i64 0) (.int .i64 0) (.int .i64 0) (.slice none 0 0))
        obtain ⟨WS5, hW⟩ : ∃ Z, (((((((((w8.setCell ⟨B10, 0, none⟩ (.int .i64 1)).setCell ⟨B10, 1, none⟩ (.string (numS t))).setCell ⟨B10, 2, none⟩ (.string (denS t))).setCell ⟨B10, 3, none⟩ (.string { data := #[] })).setCell ⟨B10, 4, none⟩ (.bool false)).setCell ⟨B10, 5, none⟩ (.int .i64 0)).setCell ⟨B10, 6, none⟩ (.int .i64 0)).setCell ⟨B10, 7, none⟩ (.int .i64 0)).setCell ⟨B10, 8, none⟩ (.slice none 0 0)) = Z := ⟨_, rfl⟩
        rw [hW] at knew kgr k9 k11
        have EWS5 := Lib.hid hW
        clear hW
        go_upto_region 13 with fail
        clear y0 y1 y2 y3 y4 y5 y6 y7 y8 f0 f1 f2 f3 f4 f5 f6 f7 f8
        rw [EWS5.out]
        replace H10 := Lib.hid knew
        replace HL := Lib.hid kgr
        replace HE := Lib.hid (HEW.out.below kgr)
        replace H9 := Lib.hid k9
        replace H11 := Lib.hid k11
        clear knew kgr k9 k11
        go_wp2_with fail
        have hok : okB 11 (WhKs13 n m k B9 B10 B11 x s t h j a b c q g) = true := by kernel_rfl
        have hna := noAny_of (ks := (WhKs13 n m k B9 B10 B11 x s t h j a b c q g)) (by kernel_rfl)
        have hla := lasts_of hna
        refine wp_region_facts (row := none) (w := WS5) 11 (WhKs13 n m k B9 B10 B11 x s t h j a b c q g) [some 51, some 52, some 53, some 54, some 55, some 56, some 57, some 58, some 59, some 60, some 61] (by kernel_rfl) (by kernel_rfl) rfl [u51, u52, u53, u54, u55, u56, u57, u58, u59, u60, u61] ?h00 (Fs.start rfl rfl) ?hs ?hd
        case h00 => simp only [putO, layL]
        case hs =>
          rintro listed vs Wr hF i hi hun hpre
          obtain ⟨s0, s1, s2, s3, s4, s5, s6, s7, s8, s9, s10, hvs⟩ := exl_of 11 vs (fun l => vs = l) hF.len rfl
          subst hvs
          have hge := Nat.zero_le i
          simp only [putO, layL]
          rcases Nat.lt_or_ge i 5 with hlt | hgt
          · replace hi := hlt
            clear hlt
            rcases Nat.lt_or_ge i 2 with hlt | hgt
            · replace hi := hlt
              clear hlt
              rcases Nat.lt_or_ge i 1 with hlt | hgt
              · replace hi := hlt
                clear hlt
                obtain rfl := eqi hi hge
                refine step_of ⟨some 51, _, _, _, _, _⟩ rfl (fun K' hK => ?_)
                go_simp
                refine hK.out _ _ ⟨_, hF.pure hok hla hpre rfl (Below.refl _ _), ?fr⟩
                case fr => simp only [putO, layL]
              · replace hge : 1 ≤ i := hgt
                clear hgt
                obtain rfl := eqi hi hge
                have p0 := hpre 0 (by kernel_rfl)
                have e0 : s0 = .int .i64 (k : Int) := hF.get 0 _ rfl (.inr p0)
                subst e0
                refine step_of ⟨some 52, _, _, _, _, _⟩ rfl (fun K' hK => ?_)
                go_simp
                go_at_call 10
                (with_reducible refine (TK1.out _ (HE.out.below (below_none hF.low))).mono ?_)
                rintro e Wq ⟨rfl, hq⟩
                refine hK.out _ _ ⟨_, hF.pure hok hla hpre rfl hq, ?fr⟩
                case fr => simp only [putO, layL]
            · replace hge : 2 ≤ i := hgt
              clear hgt
              rcases Nat.lt_or_ge i 3 with hlt | hgt
              · replace hi := hlt
                clear hlt
                obtain rfl := eqi hi hge
                refine step_of ⟨some 53, _, _, _, _, _⟩ rfl (fun K' hK => ?_)
                go_simp
                refine hK.out _ _ ⟨_, hF.pure hok hla hpre rfl (Below.refl _ _), ?fr⟩
                case fr => simp only [putO, layL]
              · replace hge : 3 ≤ i := hgt
                clear hgt
                rcases Nat.lt_or_ge i 4 with hlt | hgt
                · replace hi := hlt
                  clear hlt
                  obtain rfl := eqi hi hge
                  have p2 := hpre 2 (by kernel_rfl)
                  have e2 : s2 = .int .i64 (n : Int) := hF.get 2 _ rfl (.inr p2)
                  subst e2
                  refine step_of ⟨some 54, _, _, _, _, _⟩ rfl (fun K' hK => ?_)
                  go_simp
                  go_at_call 10
                  (with_reducible refine (TK2.out _ (HE.out.below (below_none hF.low))).mono ?_)
                  rintro e Wq ⟨rfl, hq⟩
                  refine hK.out _ _ ⟨_, hF.pure hok hla hpre rfl hq, ?fr⟩
                  case fr => simp only [putO, layL]
                · replace hge : 4 ≤ i := hgt
                  clear hgt
                  obtain rfl := eqi hi hge
                  have hcc := (nine_at (keep_block H9.out (below_none hF.low))).1
                  have cH90 := hcc.1
                  have cH91 := hcc.2.1
                  have cH92 := hcc.2.2.1
                  have cH93 := hcc.2.2.2.1
                  have cH94 := hcc.2.2.2.2.1
                  have cH95 := hcc.2.2.2.2.2.1
                  have cH96 := hcc.2.2.2.2.2.2.1
                  have cH97 := hcc.2.2.2.2.2.2.2.1
                  have cH98 := hcc.2.2.2.2.2.2.2.2
                  clear hcc
                  refine step_of ⟨some 55, _, _, _, _, _⟩ rfl (fun K' hK => ?_)
                  go_simp
                  refine hK.out _ _ ⟨_, hF.pure hok hla hpre rfl (Below.refl _ _), ?fr⟩
                  case fr => simp only [putO, layL]
          · replace hge : 5 ≤ i := hgt
            clear hgt
            rcases Nat.lt_or_ge i 8 with hlt | hgt
            · replace hi := hlt
              clear hlt
              rcases Nat.lt_or_ge i 6 with hlt | hgt
              · replace hi := hlt
                clear hlt
                obtain rfl := eqi hi hge
                refine step_of ⟨some 56, _, _, _, _, _⟩ rfl (fun K' hK => ?_)
                go_simp
                go_at_call 17
                (with_reducible refine (TB.out true _).mono ?_)
                rintro e Wq ⟨rfl, hq⟩
                refine hK.out _ _ ⟨_, hF.pure hok hla hpre rfl hq, ?fr⟩
                case fr => simp only [putO, layL]
              · replace hge : 6 ≤ i := hgt
                clear hgt
                rcases Nat.lt_or_ge i 7 with hlt | hgt
                · replace hi := hlt
                  clear hlt
                  obtain rfl := eqi hi hge
                  have p1 := hpre 1 (by kernel_rfl)
                  have e1 : s1 = .agg #[.int .i64 1, .string (numS a), .string (denS a), .string { data := #[] }, .bool false, .int .i64 0, .int .i64 0, .int .i64 0, .slice none 0 0] := hF.get 1 _ rfl (.inr p1)
                  subst e1
                  have p3 := hpre 3 (by kernel_rfl)
                  have e3 : s3 = .agg #[.int .i64 1, .string (numS b), .string (denS b), .string { data := #[] }, .bool false, .int .i64 0, .int .i64 0, .int .i64 0, .slice none 0 0] := hF.get 3 _ rfl (.inr p3)
                  subst e3
                  have p4 := hpre 4 (by kernel_rfl)
                  have e4 : s4 = .agg #[.int .i64 1, .string (numS x), .string (denS x), .string { data := #[] }, .bool false, .int .i64 0, .int .i64 0, .int .i64 0, .slice none 0 0] := hF.get 4 _ rfl (.inr p4)
                  subst e4
                  have p5 := hpre 5 (by kernel_rfl)
                  have e5 : s5 = .agg #[.int .i64 3, .string { data := #[] }, .string { data := #[] }, .string { data := #[] }, .bool true, .int .i64 0, .int .i64 0, .int .i64 0, .slice none 0 0] := hF.get 5 _ rfl (.inr p5)
                  subst e5
                  refine step_of ⟨some 57, _, _, _, _, _⟩ rfl (fun K' hK => ?_)
                  go_simp
                  refine hK.out _ _ ⟨_, hF.row hok hla hpre rfl, ?fr⟩
                  case fr => simp only [putO, layL]
                · replace hge : 7 ≤ i := hgt
                  clear hgt
                  obtain rfl := eqi hi hge
                  have p6 := hpre 6 (by kernel_rfl)
                  obtain ⟨G, eG, _, hGB⟩ : ∃ G, s6 = .slice (some ⟨G, 0, none⟩) 4 4 ∧ _ ≤ G ∧ Wr.heap[G]? = some (.cells #[.int .i64 1, .string (numS a), .string (denS a), .string { data := #[] }, .bool false, .int .i64 0, .int .i64 0, .int .i64 0, .slice none 0 0, .int .i64 1, .string (numS b), .string (denS b), .string { data := #[] }, .bool false, .int .i64 0, .int .i64 0, .int .i64 0, .slice none 0 0, .int .i64 1, .string (numS x), .string (denS x), .string { data := #[] }, .bool false, .int .i64 0, .int .i64 0, .int .i64 0, .slice none 0 0, .int .i64 3, .string { data := #[] }, .string { data := #[] }, .string { data := #[] }, .bool true, .int .i64 0, .int .i64 0, .int .i64 0, .slice none 0 0] 27 (0, 0)) := hF.get 6 _ rfl (.inr p6)
                  subst eG
                  refine step_of ⟨some 58, _, _, _, _, _⟩ rfl (fun K' hK => ?_)
                  go_simp
                  go_at_call 9
                  (with_reducible refine (SB.on TB2.out _ _ hGB (HE.out.below (below_none hF.low))).mono ?_)
                  rintro e Wq ⟨rfl, hq⟩
                  refine hK.out _ _ ⟨_, hF.pure hok hla hpre rfl hq, ?fr⟩
                  case fr => simp only [putO, layL]
            · replace hge : 8 ≤ i := hgt
              clear hgt
              rcases Nat.lt_or_ge i 9 with hlt | hgt
              · replace hi := hlt
                clear hlt
                obtain rfl := eqi hi hge
                have hcc := (nine_at (keep_block H10.out (below_none hF.low))).1
                have cH100 := hcc.1
                have cH101 := hcc.2.1
                have cH102 := hcc.2.2.1
                have cH103 := hcc.2.2.2.1
                have cH104 := hcc.2.2.2.2.1
                have cH105 := hcc.2.2.2.2.2.1
                have cH106 := hcc.2.2.2.2.2.2.1
                have cH107 := hcc.2.2.2.2.2.2.2.1
                have cH108 := hcc.2.2.2.2.2.2.2.2
                clear hcc
                refine step_of ⟨some 59, _, _, _, _, _⟩ rfl (fun K' hK => ?_)
                go_simp
                refine hK.out _ _ ⟨_, hF.pure hok hla hpre rfl (Below.refl _ _), ?fr⟩
                case fr => simp only [putO, layL]
              · replace hge : 9 ≤ i := hgt
                clear hgt
                rcases Nat.lt_or_ge i 10 with hlt | hgt
                · replace hi := hlt
                  clear hlt
                  obtain rfl := eqi hi hge
                  have p7 := hpre 7 (by kernel_rfl)
                  have e7 : s7 = .agg #[.int .i64 1, .string (numS t), .string (denS t), .string { data := #[] }, .bool false, .int .i64 0, .int .i64 0, .int .i64 0, .slice none 0 0] := hF.get 7 _ rfl (.inr p7)
                  subst e7
                  have p8 := hpre 8 (by kernel_rfl)
                  have e8 : s8 = .agg #[.int .i64 1, .string (numS t), .string (denS t), .string { data := #[] }, .bool false, .int .i64 0, .int .i64 0, .int .i64 0, .slice none 0 0] := hF.get 8 _ rfl (.inr p8)
                  subst e8
                  refine step_of ⟨some 60, _, _, _, _, _⟩ rfl (fun K' hK => ?_)
                  go_simp
                  go_at_call 11
                  (with_reducible refine (same_one t _).mono ?_)
                  rintro e Wq ⟨rfl, hq⟩
                  refine hK.out _ _ ⟨_, hF.pure hok hla hpre rfl hq, ?fr⟩
                  case fr => simp only [putO, layL]
                · replace hge : 10 ≤ i := hgt
                  clear hgt
                  obtain rfl := eqi hi hge
                  have p9 := hpre 9 (by kernel_rfl)
                  have e9 : s9 = .bool true := hF.get 9 _ rfl (.inr p9)
                  subst e9
                  refine step_of ⟨some 61, _, _, _, _, _⟩ rfl (fun K' hK => ?_)
                  go_simp
                  refine hK.out _ _ ⟨_, hF.pure hok hla hpre rfl (Below.refl _ _), ?fr⟩
                  case fr => simp only [putO, layL]
        case hd =>
          rintro listed vs WB hF hall
          obtain ⟨s0, s1, s2, s3, s4, s5, s6, s7, s8, s9, s10, hvs⟩ := exl_of 11 vs (fun l => vs = l) hF.len rfl
          subst hvs
          have e10 : s10 = .bool false := hF.get 10 _ rfl (.inr (hall 10 (by decide)))
          subst e10
          have hq := below_none hF.low
          replace HE := Lib.hid (HE.out.below hq)
          replace HL := Lib.hid (HL.out.trans (hq.mono HL.out.size))
          replace H9 := Lib.hid (keep_block H9.out hq)
          replace H10 := Lib.hid (keep_block H10.out hq)
          replace H11 := Lib.hid (keep_block H11.out hq)
          clear hq
          clear hF hall hok hna hla
          simp only [putO, layL]
          by_cases hc : k ≤ m ∧ n - k ≤ 30 - m
          · have e1 : decide ((k : Int) ≤ (m : Int)) = true := decide_eq_true (by omega)
            have e1' : decide (k ≤ m) = true := decide_eq_true (by omega)
            have e2 : decide ((n : Int) - (k : Int) ≤ 30 - (m : Int)) = true := decide_eq_true (by omega)
            have e3 : decide ((m : Int) ≤ 30) = true := decide_eq_true (by omega)
            have e3' : decide (m ≤ 30) = true := decide_eq_true (by omega)
            have TH1 := Lib.hid (TH.out hc.1 hc.2).1
            have TH2 := Lib.hid (TH.out hc.1 hc.2).2
            unfold Fun2 at TH2
            clear hc
            go_upto_region 16 with fail
            go_wp2_with fail
            (with_reducible refine (TK1.out _ HE.out).mono ?_)
            rintro e w9 ⟨rfl, hq⟩
            replace HE := Lib.hid (HE.out.below hq)
            replace HL := Lib.hid (HL.out.trans (hq.mono HL.out.size))
            replace H9 := Lib.hid (keep_block H9.out hq)
            replace H10 := Lib.hid (keep_block H10.out hq)
            replace H11 := Lib.hid (keep_block H11.out hq)
            clear hq
            go_wp2_with fail
            (with_reducible refine (TK2.out _ HE.out).mono ?_)
            rintro e w10 ⟨rfl, hq⟩
            replace HE := Lib.hid (HE.out.below hq)
            replace HL := Lib.hid (HL.out.trans (hq.mono HL.out.size))
            replace H9 := Lib.hid (keep_block H9.out hq)
            replace H10 := Lib.hid (keep_block H10.out hq)
            replace H11 := Lib.hid (keep_block H11.out hq)
            clear hq
            go_wp2_with fail
            (with_reducible refine (TK3.out _ HE.out).mono ?_)
            rintro e w11 ⟨rfl, hq⟩
            replace HE := Lib.hid (HE.out.below hq)
            replace HL := Lib.hid (HL.out.trans (hq.mono HL.out.size))
            replace H9 := Lib.hid (keep_block H9.out hq)
            replace H10 := Lib.hid (keep_block H10.out hq)
            replace H11 := Lib.hid (keep_block H11.out hq)
            clear hq
            go_wp2_with fail
            (with_reducible refine (QtT.out _ HE.out).mono ?_)
            rintro e w12 ⟨rfl, hq⟩
            replace HE := Lib.hid (HE.out.below hq)
            replace HL := Lib.hid (HL.out.trans (hq.mono HL.out.size))
            replace H9 := Lib.hid (keep_block H9.out hq)
            replace H10 := Lib.hid (keep_block H10.out hq)
            replace H11 := Lib.hid (keep_block H11.out hq)
            clear hq
            go_wp2_with fail
            (with_reducible refine (SH.at TH1.out _ HE.out).mono ?_)
            rintro e w13 ⟨rfl, hq⟩
            replace HE := Lib.hid (HE.out.below hq)
            replace HL := Lib.hid (HL.out.trans (hq.mono HL.out.size))
            replace H9 := Lib.hid (keep_block H9.out hq)
            replace H10 := Lib.hid (keep_block H10.out hq)
            replace H11 := Lib.hid (keep_block H11.out hq)
            clear hq
            have hq : Below w13.heap.size w13 (w13.alloc (.cells #[.int .i64 1, .string (numS g), .string (denS g), .string { data := #[] }, .bool false, .int .i64 0, .int .i64 0, .int .i64 0, .slice none 0 0] 27)) := ((Below.refl _ _).alloc (Nat.le_refl _) _)
            replace HE := Lib.hid (HE.out.below hq)
            replace HL := Lib.hid (HL.out.trans (hq.mono HL.out.size))
            replace H9 := Lib.hid (keep_block H9.out hq)
            replace H10 := Lib.hid (keep_block H10.out hq)
            replace H11 := Lib.hid (keep_block H11.out hq)
            have H14 : Hid ((w13.alloc (.cells #[.int .i64 1, .string (numS g), .string (denS g), .string { data := #[] }, .bool false, .int .i64 0, .int .i64 0, .int .i64 0, .slice none 0 0] 27)).heap[w13.heap.size]? = some (.cells #[.int .i64 1, .string (numS g), .string (denS g), .string { data := #[] }, .bool false, .int .i64 0, .int .i64 0, .int .i64 0, .slice none 0 0] 27 (0, 0))) := Lib.hid (by
              have h := heap_alloc_new w13 (.cells #[.int .i64 1, .string (numS g), .string (denS g), .string { data := #[] }, .bool false, .int .i64 0, .int .i64 0, .int .i64 0, .slice none 0 0] 27)
              exact h)
            clear hq
            obtain ⟨WL7, hWL7⟩ : ∃ Z, (w13.alloc (.cells #[.int .i64 1, .string (numS g), .string (denS g), .string { data := #[] }, .bool false, .int .i64 0, .int .i64 0, .int .i64 0, .slice none 0 0] 27)) = Z := ⟨_, rfl⟩
            rw [hWL7] at HE HL H9 H10 H11 H14
            have EWL7 := Lib.hid hWL7
            clear hWL7
            have SWL7 : Hid (w13.heap.size + 1 = WL7.heap.size) := Lib.hid (by rw [← EWL7.out]; simp only [World.size_alloc])
            go_upto_region 17 with fail
            rw [EWL7.out]
            obtain ⟨⟨lH140, lH141, lH142, lH143, lH144, lH145, lH146, lH147, lH148⟩, _⟩ := nine_at H14.out
            go_upto_region 18 with fail
            clear lH140 lH141 lH142 lH143 lH144 lH145 lH146 lH147 lH148
            obtain ⟨⟨lH110, lH111, lH112, lH113, lH114, lH115, lH116, lH117, lH118⟩, _⟩ := nine_at H11.out
            obtain ⟨⟨lH140, lH141, lH142, lH143, lH144, lH145, lH146, lH147, lH148⟩, _⟩ := nine_at H14.out
            go_wp2_with fail
            (with_reducible refine (TH2.out _ HE.out).mono ?_)
            rintro e w14 ⟨rfl, hq⟩
            replace HE := Lib.hid (HE.out.below hq)
            replace HL := Lib.hid (HL.out.trans (hq.mono HL.out.size))
            replace H9 := Lib.hid (keep_block H9.out hq)
            replace H10 := Lib.hid (keep_block H10.out hq)
            replace H11 := Lib.hid (keep_block H11.out hq)
            replace H14 := Lib.hid (keep_block H14.out hq)
            clear hq
            clear lH110 lH111 lH112 lH113 lH114 lH115 lH116 lH117 lH118 lH140 lH141 lH142 lH143 lH144 lH145 lH146 lH147 lH148
            clear H14
            obtain ⟨⟨y0, y1, y2, y3, y4, y5, y6, y7, y8⟩, f0, f1, f2, f3, f4, f5, f6, f7, f8⟩ := nine_at H11.out
            have k9 : (((((((((w14.setCell ⟨B11, 0, none⟩ (.int .i64 1)).setCell ⟨B11, 1, none⟩ (.string (numS j))).setCell ⟨B11, 2, none⟩ (.string (denS j))).setCell ⟨B11, 3, none⟩ (.string { data := #[] })).setCell ⟨B11, 4, none⟩ (.bool false)).setCell ⟨B11, 5, none⟩ (.int .i64 0)).setCell ⟨B11, 6, none⟩ (.int .i64 0)).setCell ⟨B11, 7, none⟩ (.int .i64 0)).setCell ⟨B11, 8, none⟩ (.slice none 0 0)).heap[B9]? = some (.cells #[.int .i64 1, .string (numS x), .string (denS x), .string { data := #[] }, .bool false, .int .i64 0, .int .i64 0, .int .i64 0, .slice none 0 0] 27 (0, 0)) := (set9_other w14 B11 (.int .i64 1) (.string (numS j)) (.string (denS j)) (.string { data := #[] }) (.bool false) (.int .i64 0) (.int .i64 0) (.int .i64 0) (.slice none 0 0) (show B9 ≠ B11 from by have := L10_9.out; have := L11_10.out; skip; omega)).trans H9.out
            have k10 : (((((((((w14.setCell ⟨B11, 0, none⟩ (.int .i64 1)).setCell ⟨B11, 1, none⟩ (.string (numS j))).setCell ⟨B11, 2, none⟩ (.string (denS j))).setCell ⟨B11, 3, none⟩ (.string { data := #[] })).setCell ⟨B11, 4, none⟩ (.bool false)).setCell ⟨B11, 5, none⟩ (.int .i64 0)).setCell ⟨B11, 6, none⟩ (.int .i64 0)).setCell ⟨B11, 7, none⟩ (.int .i64 0)).setCell ⟨B11, 8, none⟩ (.slice none 0 0)).heap[B10]? = some (.cells #[.int .i64 1, .string (numS t), .string (denS t), .string { data := #[] }, .bool false, .int .i64 0, .int .i64 0, .int .i64 0, .slice none 0 0] 27 (0, 0)) := (set9_other w14 B11 (.int .i64 1) (.string (numS j)) (.string (denS j)) (.string { data := #[] }) (.bool false) (.int .i64 0) (.int .i64 0) (.int .i64 0) (.slice none 0 0) (show B10 ≠ B11 from by have := L10_9.out; have := L11_10.out; skip; omega)).trans H10.out
            have knew := set9_at H11.out (.int .i64 1) (.string (numS j)) (.string (denS j)) (.string { data := #[] }) (.bool false) (.int .i64 0) (.int .i64 0) (.int .i64 0) (.slice none 0 0)
            have kgr : Below w.heap.size w (((((((((w14.setCell ⟨B11, 0, none⟩ (.int .i64 1)).setCell ⟨B11, 1, none⟩ (.string (numS j))).setCell ⟨B11, 2, none⟩ (.string (denS j))).setCell ⟨B11, 3, none⟩ (.string { data := #[] })).setCell ⟨B11, 4, none⟩ (.bool false)).setCell ⟨B11, 5, none⟩ (.int .i64 0)).setCell ⟨B11, 6, none⟩ (.int .i64 0)).setCell ⟨B11, 7, none⟩ (.int .i64 0)).setCell ⟨B11, 8, none⟩ (.slice none 0 0)) := HL.out.trans (put9_below (show w.heap.size ≤ B11 from by have := G10.out; have := L11_10.out; omega) w14 (.int .i64 1) (.string (numS j)) (.string (denS j)) (.string { data := #[] }) (.bool false) (.int .i64 0) (.int .i64 0) (.int .i64 0) (.slice none 0 0))
            have HI := Lib.hid (show WhI w B9 B10 B11 x t j _ from ⟨k9, k10, knew, kgr⟩)
            go_wp2
            go_roundg (n + 1 - (k + 1))
            case measure => omega
            case rel => exact ⟨k + 1, by go_num, by omega, by omega, by rw [HT.out.1, HT.out.2]; exact HI.out⟩
          · have hj := THH.out hc
            have e0 : ¬ (decide ((k : Int) ≤ (m : Int)) = true ∧ decide ((n : Int) - (k : Int) ≤ 30 - (m : Int)) = true) := by
              rintro ⟨e1, e2⟩
              have e1 := of_decide_eq_true e1
              have e2 := of_decide_eq_true e2
              omega
            have e3 : decide ((m : Int) ≤ 30) = true := decide_eq_true (by omega)
            have e3' : decide (m ≤ 30) = true := decide_eq_true (by omega)
            have HI := Lib.hid (show WhI w B9 B10 B11 x t h _ from ⟨H9.out, H10.out, H11.out, HL.out⟩)
            have HJ := Lib.hid hj
            clear hj
            by_cases hkm : k ≤ m
            · have e1 : decide ((k : Int) ≤ (m : Int)) = true := decide_eq_true (by omega)
              have e1' : decide (k ≤ m) = true := decide_eq_true hkm
              have e2 : decide ((n : Int) - (k : Int) ≤ 30 - (m : Int)) = false := decide_eq_false (by omega)
              clear e0 hc hkm
              go_wp2
              go_roundg (n + 1 - (k + 1))
              case measure => omega
              case rel => exact ⟨k + 1, by go_num, by omega, by omega, by rw [HT.out.1, HT.out.2, HJ.out]; exact HI.out⟩
            · have e1 : decide ((k : Int) ≤ (m : Int)) = false := decide_eq_false (by omega)
              have e1' : decide (k ≤ m) = false := decide_eq_false hkm
              clear e0 hc hkm
              go_wp2
              go_roundg (n + 1 - (k + 1))
              case measure => omega
              case rel => exact ⟨k + 1, by go_num, by omega, by omega, by rw [HT.out.1, HT.out.2, HJ.out]; exact HI.out⟩
    · have hd : decide ((k : Int) < (n : Int) + 1) = false := decide_eq_false (by omega)
      have hd2 : decide (k < n + 1) = false := decide_eq_false (by omega)
      have hkn : k = n + 1 := by omega
      have hkc : (k : Int) = (n : Int) + 1 := by omega
      rw [hkc] at hd ⊢
      clear hkc
      subst hkn
      rw [QhSn.out.1] at H10
      rw [QhSn.out.2] at H11
      clear hlt hgk hk
      go_wp2_with fail
      have hok : okB 9 (WhKs20 o B10 B11) = true := by kernel_rfl
      have hna := noAny_of (ks := (WhKs20 o B10 B11)) (by kernel_rfl)
      have hla := lasts_of hna
      refine wp_region_facts (row := none) (w := wr) 9 (WhKs20 o B10 B11) [some 93, some 94, some 95, some 96, some 97, some 98, some 99, some 100, some 6] (by kernel_rfl) (by kernel_rfl) rfl [undef, undef, undef, undef, undef, undef, undef, undef, u6] ?h00 (Fs.start rfl rfl) ?hs ?hd
      case h00 => simp only [putO, layL]
      case hs =>
        rintro listed vs Wr hF i hi hun hpre
        obtain ⟨s0, s1, s2, s3, s4, s5, s6, s7, s8, hvs⟩ := exl_of 9 vs (fun l => vs = l) hF.len rfl
        subst hvs
        have hge := Nat.zero_le i
        simp only [putO, layL]
        rcases Nat.lt_or_ge i 4 with hlt | hgt
        · replace hi := hlt
          clear hlt
          rcases Nat.lt_or_ge i 2 with hlt | hgt
          · replace hi := hlt
            clear hlt
            rcases Nat.lt_or_ge i 1 with hlt | hgt
            · replace hi := hlt
              clear hlt
              obtain rfl := eqi hi hge
              have hcc := (nine_at (keep_block H10.out (below_none hF.low))).1
              have cH100 := hcc.1
              have cH101 := hcc.2.1
              have cH102 := hcc.2.2.1
              have cH103 := hcc.2.2.2.1
              have cH104 := hcc.2.2.2.2.1
              have cH105 := hcc.2.2.2.2.2.1
              have cH106 := hcc.2.2.2.2.2.2.1
              have cH107 := hcc.2.2.2.2.2.2.2.1
              have cH108 := hcc.2.2.2.2.2.2.2.2
              clear hcc
              refine step_of ⟨some 93, _, _, _, _, _⟩ rfl (fun K' hK => ?_)
              go_simp
              refine hK.out _ _ ⟨_, hF.pure hok hla hpre rfl (Below.refl _ _), ?fr⟩
              case fr => simp only [putO, layL]
            · replace hge : 1 ≤ i := hgt
              clear hgt
              obtain rfl := eqi hi hge
              refine step_of ⟨some 94, _, _, _, _, _⟩ rfl (fun K' hK => ?_)
              go_simp
              go_at_call 10
              (with_reducible refine (QtO.out _ (HE.out.below (below_none hF.low))).mono ?_)
              rintro e Wq ⟨rfl, hq⟩
              refine hK.out _ _ ⟨_, hF.pure hok hla hpre rfl hq, ?fr⟩
              case fr => simp only [putO, layL]
          · replace hge : 2 ≤ i := hgt
            clear hgt
            rcases Nat.lt_or_ge i 3 with hlt | hgt
            · replace hi := hlt
              clear hlt
              obtain rfl := eqi hi hge
              have p0 := hpre 0 (by kernel_rfl)
              have e0 : s0 = .agg #[.int .i64 1, .string (numS o), .string (denS o), .string { data := #[] }, .bool false, .int .i64 0, .int .i64 0, .int .i64 0, .slice none 0 0] := hF.get 0 _ rfl (.inr p0)
              subst e0
              have p1 := hpre 1 (by kernel_rfl)
              have e1 : s1 = .agg #[.int .i64 1, .string (numS o), .string (denS o), .string { data := #[] }, .bool false, .int .i64 0, .int .i64 0, .int .i64 0, .slice none 0 0] := hF.get 1 _ rfl (.inr p1)
              subst e1
              refine step_of ⟨some 95, _, _, _, _, _⟩ rfl (fun K' hK => ?_)
              go_simp
              go_at_call 11
              (with_reducible refine (same_one o _).mono ?_)
              rintro e Wq ⟨rfl, hq⟩
              refine hK.out _ _ ⟨_, hF.pure hok hla hpre rfl hq, ?fr⟩
              case fr => simp only [putO, layL]
            · replace hge : 3 ≤ i := hgt
              clear hgt
              obtain rfl := eqi hi hge
              have p2 := hpre 2 (by kernel_rfl)
              have e2 : s2 = .bool true := hF.get 2 _ rfl (.inr p2)
              subst e2
              refine step_of ⟨some 96, _, _, _, _, _⟩ rfl (fun K' hK => ?_)
              go_simp
              refine hK.out _ _ ⟨_, hF.pure hok hla hpre rfl (Below.refl _ _), ?fr⟩
              case fr => simp only [putO, layL]
        · replace hge : 4 ≤ i := hgt
          clear hgt
          rcases Nat.lt_or_ge i 6 with hlt | hgt
          · replace hi := hlt
            clear hlt
            rcases Nat.lt_or_ge i 5 with hlt | hgt
            · replace hi := hlt
              clear hlt
              obtain rfl := eqi hi hge
              have p3 := hpre 3 (by kernel_rfl)
              have e3 : s3 = .bool true := hF.get 3 _ rfl (.inr p3)
              subst e3
              have hcc := (nine_at (keep_block H11.out (below_none hF.low))).1
              have cH110 := hcc.1
              have cH111 := hcc.2.1
              have cH112 := hcc.2.2.1
              have cH113 := hcc.2.2.2.1
              have cH114 := hcc.2.2.2.2.1
              have cH115 := hcc.2.2.2.2.2.1
              have cH116 := hcc.2.2.2.2.2.2.1
              have cH117 := hcc.2.2.2.2.2.2.2.1
              have cH118 := hcc.2.2.2.2.2.2.2.2
              clear hcc
              refine step_of ⟨some 97, _, _, _, _, _⟩ rfl (fun K' hK => ?_)
              rw [if_pos (by rfl)]
              go_simp
              refine hK.out _ _ ⟨_, hF.pure hok hla hpre rfl (Below.refl _ _), ?fr⟩
              case fr => simp only [putO, layL]
            · replace hge : 5 ≤ i := hgt
              clear hgt
              obtain rfl := eqi hi hge
              have p3 := hpre 3 (by kernel_rfl)
              have e3 : s3 = .bool true := hF.get 3 _ rfl (.inr p3)
              subst e3
              refine step_of ⟨some 98, _, _, _, _, _⟩ rfl (fun K' hK => ?_)
              rw [if_pos (by rfl)]
              go_simp
              go_at_call 10
              (with_reducible refine (QtO.out _ (HE.out.below (below_none hF.low))).mono ?_)
              rintro e Wq ⟨rfl, hq⟩
              refine hK.out _ _ ⟨_, hF.pure hok hla hpre rfl hq, ?fr⟩
              case fr => simp only [putO, layL]
          · replace hge : 6 ≤ i := hgt
            clear hgt
            rcases Nat.lt_or_ge i 7 with hlt | hgt
            · replace hi := hlt
              clear hlt
              obtain rfl := eqi hi hge
              have p4 := hpre 4 (by kernel_rfl)
              have e4 : s4 = .agg #[.int .i64 1, .string (numS o), .string (denS o), .string { data := #[] }, .bool false, .int .i64 0, .int .i64 0, .int .i64 0, .slice none 0 0] := hF.get 4 _ rfl (.inr p4)
              subst e4
              have p5 := hpre 5 (by kernel_rfl)
              have e5 : s5 = .agg #[.int .i64 1, .string (numS o), .string (denS o), .string { data := #[] }, .bool false, .int .i64 0, .int .i64 0, .int .i64 0, .slice none 0 0] := hF.get 5 _ rfl (.inr p5)
              subst e5
              have p3 := hpre 3 (by kernel_rfl)
              have e3 : s3 = .bool true := hF.get 3 _ rfl (.inr p3)
              subst e3
              refine step_of ⟨some 99, _, _, _, _, _⟩ rfl (fun K' hK => ?_)
              rw [if_pos (by rfl)]
              go_simp
              go_at_call 11
              (with_reducible refine (same_one o _).mono ?_)
              rintro e Wq ⟨rfl, hq⟩
              refine hK.out _ _ ⟨_, hF.pure hok hla hpre rfl hq, ?fr⟩
              case fr => simp only [putO, layL]
            · replace hge : 7 ≤ i := hgt
              clear hgt
              rcases Nat.lt_or_ge i 8 with hlt | hgt
              · replace hi := hlt
                clear hlt
                obtain rfl := eqi hi hge
                have p3 := hpre 3 (by kernel_rfl)
                have e3 : s3 = .bool true := hF.get 3 _ rfl (.inr p3)
                subst e3
                have p6 := hpre 6 (by kernel_rfl)
                have e6 : s6 = .bool true := hF.get 6 _ rfl (.inr p6)
                subst e6
                refine step_of ⟨some 100, _, _, _, _, _⟩ rfl (fun K' hK => ?_)
                go_simp
                refine hK.out _ _ ⟨_, hF.pure hok hla hpre rfl (Below.refl _ _), ?fr⟩
                case fr => simp only [putO, layL]
              · replace hge : 8 ≤ i := hgt
                clear hgt
                obtain rfl := eqi hi hge
                have p7 := hpre 7 (by kernel_rfl)
                have e7 : s7 = .bool true := hF.get 7 _ rfl (.inr p7)
                subst e7
                refine step_of ⟨some 6, _, _, _, _, _⟩ rfl (fun K' hK => ?_)
                go_simp
                refine hK.out _ _ ⟨_, hF.pure hok hla hpre rfl (Below.refl _ _), ?fr⟩
                case fr => simp only [putO, layL]
      case hd =>
        rintro listed vs WC hF hall
        obtain ⟨s0, s1, s2, s3, s4, s5, s6, s7, s8, hvs⟩ := exl_of 9 vs (fun l => vs = l) hF.len rfl
        subst hvs
        have e8 : s8 = .bool true := hF.get 8 _ rfl (.inr (hall 8 (by decide)))
        subst e8
        have hq := below_none hF.low
        replace HE := Lib.hid (HE.out.below hq)
        replace HL := Lib.hid (HL.out.trans (hq.mono HL.out.size))
        replace H9 := Lib.hid (keep_block H9.out hq)
        replace H10 := Lib.hid (keep_block H10.out hq)
        replace H11 := Lib.hid (keep_block H11.out hq)
        clear hq
        clear hF hall hok hna hla
        simp only [putO, layL]
        go_wp2
        go_ret
        exact ⟨rfl, HL.out⟩
end Go.Proofs.YtemdjmaakajhjaaGreatDoor.Num.Ft

/- The law FstatWhole at any three ints. Conditions: the tables lie as they are laid. -/
namespace Go.Proofs.YtemdjmaakajhjaaGreatDoor.Num.Ft
open Go.RowKit Go.Lib Num

/-- how much the cases of drawing come to, up to number k -/
theorem hyps_fits {n m k : Nat} (hn : n ≤ 20) (hm : m ≤ 20) (hk : k ≤ n + 1) : fits (hypsR n m k) = true := (hypsR_sm hm hk hn).fits (by decide +kernel) (by decide +kernel)
theorem hypR_fits {n m k : Nat} (hn : n ≤ 20) (hm : m ≤ 20) : fits (hypR n m k) = true := by
  have hr : Sm (hypR n m k) (2 ^ 200 * 2 ^ 200) (2 ^ 200) := by
    refine ⟨((hypT n m k : Nat) : Int), choose 30 n, choose30_ne hn, ?_, ?_, choose_small (by decide)⟩
    · unfold hypR; rw [Rat.intCast_natCast]
    · rw [Int.natAbs_natCast]
      exact Nat.mul_le_mul (choose_small (by omega)) (choose_small (by omega))
  exact hr.fits (by decide +kernel) (by decide +kernel)
theorem whole_any' (n0 p0 m0 : Int) (w : World) (h0 : -9223372036854775808 ≤ n0) (h0' : n0 ≤ 9223372036854775807) (h1 : -9223372036854775808 ≤ p0) (h1' : p0 ≤ 9223372036854775807) (h2 : -9223372036854775808 ≤ m0) (h2' : m0 ≤ 9223372036854775807) (hE : EnvY w) :
    Calls Tryz.prog 5 #[.int .i64 n0, .int .i64 p0, .int .i64 m0] w fun e w' => e = .returned (.bool true) ∧ Below w.heap.size w w' := by
  obtain ⟨n, hn⟩ : ∃ n : Nat, 1 + n0 % 20 = (n : Int) := ⟨(1 + n0 % 20).toNat, by omega⟩
  obtain ⟨p, hp⟩ : ∃ p : Nat, p0 % 11 = (p : Int) := ⟨(p0 % 11).toNat, by omega⟩
  have hn1 : 1 ≤ n := by omega
  have hn2 : n ≤ 20 := by omega
  have hp1 : p ≤ 10 := by omega
  have hmb : 0 ≤ m0 % ((n : Int) + 1) ∧ m0 % ((n : Int) + 1) < (n : Int) + 1 := ⟨Int.emod_nonneg _ (by omega), Int.emod_lt_of_pos _ (by omega)⟩
  obtain ⟨m, hm⟩ : ∃ m : Nat, m0 % ((n : Int) + 1) = (m : Int) := ⟨(m0 % ((n : Int) + 1)).toNat, by omega⟩
  have hm2 : m ≤ n := by omega
  have hm3 : m ≤ 20 := by omega
  have fx := (tenth_facts p (by omega)).1
  have tW : ∀ k : Int, -9223372036854775808 ≤ k → k ≤ 9223372036854775807 → Fun1 10 (.int .i64 k) (numVal ((k : Int) : Rat)) := fun k a b W g => kwhole_any k W a b g
  exact whole_walk n0 p0 m0 n p m (tenthR p) ((0 : Int) : Rat) ((1 : Int) : Rat) ((30 : Int) : Rat) (fun k => ((k : Int) : Rat)) (fun k => binsR n p k) (fun k => hypsR n m k) (fun k => binR n p k) (fun k => hypR n m k) w hE
    ⟨h0, h0'⟩ ⟨h1, h1'⟩ ⟨h2, h2'⟩ hn hp hm hn1 hn2 hm2
    (fun W g => by
      have T := ratio_any (p : Int) 10 W (by omega) (by omega) (by decide) g.tab
      rw [show ((p : Int) : Rat) / ((10 : Int) : Rat) = tenthR p from rfl, wroteV_ok fx] at T
      exact T)
    (fun W g => number_any (tenthR p) W fx g) (tW 0 (by decide) (by decide)) (tW 1 (by decide) (by decide)) (tW 30 (by decide) (by decide))
    (fun k hk => tW k (by omega) (by omega))
    ⟨binsR_zero n p, hypsR_zero n m⟩ ⟨binsR_all hn2 hp1, hypsR_all hn2 hm3⟩
    (fun k hk => ⟨fun W G hb hE' => s_BINOM false hn2 hp1 hk G 0 4 W (vals_of_block hb rfl) hE', fun W G hb hE' => s_BINOM true hn2 hp1 hk G 0 4 W (vals_of_block hb rfl) hE'⟩)
    (fun k hk => by
      rw [binsR_succ]
      exact fun W g => kplus_any _ _ W (bins_fits hn2 hp1 (by omega)) ((binR_sm (n := n) (p := p) (i := k) hp1 hk hn2).fits (by decide +kernel) (by decide +kernel)) (by rw [← binsR_succ]; exact bins_fits hn2 hp1 (by omega)) g)
    (fun k hk hkm hnk => ⟨fun W G hb hE' => s_HYPER hn2 hk hm3 hkm hnk G 0 4 W (vals_of_block hb rfl) hE', by
      rw [hypsR_succ]
      exact fun W g => kplus_any _ _ W (hyps_fits hn2 hm3 (by omega)) (hypR_fits hn2 hm3) (by rw [← hypsR_succ]; exact hyps_fits hn2 hm3 (by omega)) g⟩)
    (fun k hk hc => by
      rw [hypsR_succ]
      unfold hypR
      rw [hyp_zero (by omega)]
      show hypsR n m k + ((0 : Nat) : Rat) / _ = hypsR n m k
      rw [show ((0 : Nat) : Rat) = 0 from rfl, Rat.div_def, Rat.zero_mul, Rat.add_zero])
end Go.Proofs.YtemdjmaakajhjaaGreatDoor.Num.Ft
