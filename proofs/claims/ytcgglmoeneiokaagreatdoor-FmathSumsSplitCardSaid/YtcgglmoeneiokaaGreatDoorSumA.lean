/- Numbers as texts of digits, fractions, values and the functions of fmath: contracts of the program's functions, joined from smaller texts. Conditions stand at each theorem. -/
import Derived.Test.YtcgglmoeneiokaaGreatDoorArrB
import Derived.Test.YtcgglmoeneiokaaGreatDoorDivA
import Derived.Test.YtcgglmoeneiokaaGreatDoorArrA

/- The law FmathSumsSplit's own walk. Conditions: the tables lie as they are laid. -/
namespace Go.Proofs.YtcgglmoeneiokaaGreatDoor.Num
open Go.RowKit Go.Lib

theorem bq {listed : Array Bool} {i j : Nat} {X : Prop} (f : listed.getD j false = true → X) (h : (listed.setIfInBounds i true).getD j false = true) (hne : j ≠ i := by decide) : X := f ((bit_set h).resolve_left hne)
theorem bq2 {listed : Array Bool} {i j k : Nat} {X : Prop} (f : listed.getD j false = true → ¬ listed.getD k false = true → X) (h : (listed.setIfInBounds i true).getD j false = true) (h2 : ¬ (listed.setIfInBounds i true).getD k false = true) (hne : j ≠ i := by decide) : X := f ((bit_set h).resolve_left hne) (fun c => h2 (bit_mono c))
theorem bq3 {listed : Array Bool} {i j k : Nat} {W W' : World} {s : Value} {n m : Nat} {o : Obj} (hq : Below W.heap.size W W') (f : listed.getD j false = true → ¬ listed.getD k false = true → ∃ G, s = .slice (some ⟨G, 0, none⟩) n m ∧ W.heap[G]? = some o) (h : (listed.setIfInBounds i true).getD j false = true) (h2 : ¬ (listed.setIfInBounds i true).getD k false = true) (hne : j ≠ i := by decide) : ∃ G, s = .slice (some ⟨G, 0, none⟩) n m ∧ W'.heap[G]? = some o := by
  obtain ⟨G, e, k2⟩ := bq2 f h h2 hne
  exact ⟨G, e, keep_block k2 hq⟩
/-- the law's array at a slice of whole numbers -/
def ArrGives (w : World) (l : Value) (qs : List Rat) : Prop := ∀ W, Below w.heap.size w W → Calls Tryz.prog 18 #[l] W fun e w' => ∃ (v : Val) (s : Int), e = .returned (.agg #[.int .i64 v.k, .string v.n, .string v.d, .string v.t, .bool v.on, .int .i64 v.c, .int .i64 v.r, .int .i64 v.s, .slice v.A v.L v.C]) ∧ PArg w' v 1 s qs ∧ Below W.heap.size W w'
/-- what math gives at two arrays, at one -/
def Math2A (nm : ByteArray) (qa qb : List Rat) (r : Rat) : Prop := ∀ (W : World) (G C : Nat) (va vb : Val) (ra rb : Int), ValsAt W G 0 [va, vb] → PArg W va 1 ra qa → PArg W vb 1 rb qb → Env W → Calls Tryz.prog 10 #[.string nm, .slice (some ⟨G, 0, none⟩) 2 C] W fun e w' => e = .returned (numVal r) ∧ Below W.heap.size W w'
def Math1A (nm : ByteArray) (qa : List Rat) (r : Rat) : Prop := ∀ (W : World) (G C : Nat) (va : Val) (ra : Int), ValsAt W G 0 [va] → PArg W va 1 ra qa → Env W → Calls Tryz.prog 10 #[.string nm, .slice (some ⟨G, 0, none⟩) 1 C] W fun e w' => e = .returned (numVal r) ∧ Below W.heap.size W w'
/-- what is known while the region's operations run in whatever order -/
structure SumsJ (w w2 w5 : World) (va vb : Val) (ra rb : Int) (qa qb : List Rat) (sab sa sb tab ta tb z : Rat) (s18 s19 s20 s21 s22 s23 s24 s25 s26 s27 s28 s29 s30 s31 s32 s33 s34 s35 s36 s37 s38 s39 s40 s41 s42 s43 s44 s45 s46 s47 s48 s49 s50 s51 s52 s53 s54 s55 s56 s57 s58 s59 s60 s61 s4 : Value) (listed : Array Bool) (W : World) : Prop where
  f0 : Env W
  f1 : Below w.heap.size w W
  f2 : w5.heap.size ≤ W.heap.size
  f3 : W.heap[w2.heap.size]? = some (.cells #[.int .i64 va.k, .string va.n, .string va.d, .string va.t, .bool va.on, .int .i64 va.c, .int .i64 va.r, .int .i64 va.s, .slice va.A va.L va.C] 27 (0, 0))
  f4 : W.heap[w2.heap.size + 1]? = some (.cells #[.int .i64 vb.k, .string vb.n, .string vb.d, .string vb.t, .bool vb.on, .int .i64 vb.c, .int .i64 vb.r, .int .i64 vb.s, .slice vb.A vb.L vb.C] 27 (0, 0))
  f5 : PArg W va 1 ra qa
  f6 : PArg W vb 1 rb qb
  f7 : (listed.getD 0 false = true → s18 = .agg #[.int .i64 va.k, .string va.n, .string va.d, .string va.t, .bool va.on, .int .i64 va.c, .int .i64 va.r, .int .i64 va.s, .slice va.A va.L va.C])
  f8 : (listed.getD 1 false = true → s19 = .agg #[.int .i64 vb.k, .string vb.n, .string vb.d, .string vb.t, .bool vb.on, .int .i64 vb.c, .int .i64 vb.r, .int .i64 vb.s, .slice vb.A vb.L vb.C])
  f9 : (listed.getD 2 false = true → ¬ listed.getD 3 false = true → ∃ G, s20 = .slice (some ⟨G, 0, none⟩) 2 2 ∧ W.heap[G]? = some (.cells #[.int .i64 va.k, .string va.n, .string va.d, .string va.t, .bool va.on, .int .i64 va.c, .int .i64 va.r, .int .i64 va.s, .slice va.A va.L va.C, .int .i64 vb.k, .string vb.n, .string vb.d, .string vb.t, .bool vb.on, .int .i64 vb.c, .int .i64 vb.r, .int .i64 vb.s, .slice vb.A vb.L vb.C] 27 (0, 0)))
  f10 : (listed.getD 3 false = true → s21 = .agg #[.int .i64 1, .string (numS sab), .string (denS sab), .string { data := #[] }, .bool false, .int .i64 0, .int .i64 0, .int .i64 0, .slice none 0 0])
  f11 : (listed.getD 4 false = true → s22 = .agg #[.int .i64 va.k, .string va.n, .string va.d, .string va.t, .bool va.on, .int .i64 va.c, .int .i64 va.r, .int .i64 va.s, .slice va.A va.L va.C])
  f12 : (listed.getD 5 false = true → ¬ listed.getD 6 false = true → ∃ G, s23 = .slice (some ⟨G, 0, none⟩) 1 1 ∧ W.heap[G]? = some (.cells #[.int .i64 va.k, .string va.n, .string va.d, .string va.t, .bool va.on, .int .i64 va.c, .int .i64 va.r, .int .i64 va.s, .slice va.A va.L va.C] 27 (0, 0)))
  f13 : (listed.getD 6 false = true → s24 = .agg #[.int .i64 1, .string (numS sa), .string (denS sa), .string { data := #[] }, .bool false, .int .i64 0, .int .i64 0, .int .i64 0, .slice none 0 0])
  f14 : (listed.getD 7 false = true → s25 = .agg #[.int .i64 vb.k, .string vb.n, .string vb.d, .string vb.t, .bool vb.on, .int .i64 vb.c, .int .i64 vb.r, .int .i64 vb.s, .slice vb.A vb.L vb.C])
  f15 : (listed.getD 8 false = true → ¬ listed.getD 9 false = true → ∃ G, s26 = .slice (some ⟨G, 0, none⟩) 1 1 ∧ W.heap[G]? = some (.cells #[.int .i64 vb.k, .string vb.n, .string vb.d, .string vb.t, .bool vb.on, .int .i64 vb.c, .int .i64 vb.r, .int .i64 vb.s, .slice vb.A vb.L vb.C] 27 (0, 0)))
  f16 : (listed.getD 9 false = true → s27 = .agg #[.int .i64 1, .string (numS sb), .string (denS sb), .string { data := #[] }, .bool false, .int .i64 0, .int .i64 0, .int .i64 0, .slice none 0 0])
  f17 : (listed.getD 10 false = true → s28 = .agg #[.int .i64 1, .string (numS sab), .string (denS sab), .string { data := #[] }, .bool false, .int .i64 0, .int .i64 0, .int .i64 0, .slice none 0 0])
  f18 : (listed.getD 11 false = true → s29 = .bool true)
  f19 : (listed.getD 12 false = true → s30 = .bool true)
  f20 : (listed.getD 13 false = true → s31 = .agg #[.int .i64 va.k, .string va.n, .string va.d, .string va.t, .bool va.on, .int .i64 va.c, .int .i64 va.r, .int .i64 va.s, .slice va.A va.L va.C])
  f21 : (listed.getD 14 false = true → s32 = .agg #[.int .i64 vb.k, .string vb.n, .string vb.d, .string vb.t, .bool vb.on, .int .i64 vb.c, .int .i64 vb.r, .int .i64 vb.s, .slice vb.A vb.L vb.C])
  f22 : (listed.getD 15 false = true → ¬ listed.getD 16 false = true → ∃ G, s33 = .slice (some ⟨G, 0, none⟩) 2 2 ∧ W.heap[G]? = some (.cells #[.int .i64 va.k, .string va.n, .string va.d, .string va.t, .bool va.on, .int .i64 va.c, .int .i64 va.r, .int .i64 va.s, .slice va.A va.L va.C, .int .i64 vb.k, .string vb.n, .string vb.d, .string vb.t, .bool vb.on, .int .i64 vb.c, .int .i64 vb.r, .int .i64 vb.s, .slice vb.A vb.L vb.C] 27 (0, 0)))
  f23 : (listed.getD 16 false = true → s34 = .agg #[.int .i64 1, .string (numS tab), .string (denS tab), .string { data := #[] }, .bool false, .int .i64 0, .int .i64 0, .int .i64 0, .slice none 0 0])
  f24 : (listed.getD 17 false = true → s35 = .agg #[.int .i64 va.k, .string va.n, .string va.d, .string va.t, .bool va.on, .int .i64 va.c, .int .i64 va.r, .int .i64 va.s, .slice va.A va.L va.C])
  f25 : (listed.getD 18 false = true → ¬ listed.getD 19 false = true → ∃ G, s36 = .slice (some ⟨G, 0, none⟩) 1 1 ∧ W.heap[G]? = some (.cells #[.int .i64 va.k, .string va.n, .string va.d, .string va.t, .bool va.on, .int .i64 va.c, .int .i64 va.r, .int .i64 va.s, .slice va.A va.L va.C] 27 (0, 0)))
  f26 : (listed.getD 19 false = true → s37 = .agg #[.int .i64 1, .string (numS ta), .string (denS ta), .string { data := #[] }, .bool false, .int .i64 0, .int .i64 0, .int .i64 0, .slice none 0 0])
  f27 : (listed.getD 20 false = true → s38 = .agg #[.int .i64 vb.k, .string vb.n, .string vb.d, .string vb.t, .bool vb.on, .int .i64 vb.c, .int .i64 vb.r, .int .i64 vb.s, .slice vb.A vb.L vb.C])
  f28 : (listed.getD 21 false = true → ¬ listed.getD 22 false = true → ∃ G, s39 = .slice (some ⟨G, 0, none⟩) 1 1 ∧ W.heap[G]? = some (.cells #[.int .i64 vb.k, .string vb.n, .string vb.d, .string vb.t, .bool vb.on, .int .i64 vb.c, .int .i64 vb.r, .int .i64 vb.s, .slice vb.A vb.L vb.C] 27 (0, 0)))
  f29 : (listed.getD 22 false = true → s40 = .agg #[.int .i64 1, .string (numS tb), .string (denS tb), .string { data := #[] }, .bool false, .int .i64 0, .int .i64 0, .int .i64 0, .slice none 0 0])
  f30 : (listed.getD 23 false = true → s41 = .agg #[.int .i64 1, .string (numS tab), .string (denS tab), .string { data := #[] }, .bool false, .int .i64 0, .int .i64 0, .int .i64 0, .slice none 0 0])
  f31 : (listed.getD 24 false = true → s42 = .bool true)
  f32 : (listed.getD 25 false = true → s43 = .bool true)
  f33 : (listed.getD 26 false = true → s44 = .bool true)
  f34 : (listed.getD 27 false = true → s45 = .agg #[.int .i64 va.k, .string va.n, .string va.d, .string va.t, .bool va.on, .int .i64 va.c, .int .i64 va.r, .int .i64 va.s, .slice va.A va.L va.C])
  f35 : (listed.getD 28 false = true → s46 = .agg #[.int .i64 va.k, .string va.n, .string va.d, .string va.t, .bool va.on, .int .i64 va.c, .int .i64 va.r, .int .i64 va.s, .slice va.A va.L va.C])
  f36 : (listed.getD 29 false = true → ¬ listed.getD 30 false = true → ∃ G, s47 = .slice (some ⟨G, 0, none⟩) 2 2 ∧ W.heap[G]? = some (.cells #[.int .i64 va.k, .string va.n, .string va.d, .string va.t, .bool va.on, .int .i64 va.c, .int .i64 va.r, .int .i64 va.s, .slice va.A va.L va.C, .int .i64 va.k, .string va.n, .string va.d, .string va.t, .bool va.on, .int .i64 va.c, .int .i64 va.r, .int .i64 va.s, .slice va.A va.L va.C] 27 (0, 0)))
  f37 : (listed.getD 30 false = true → s48 = .agg #[.int .i64 1, .string (numS ta), .string (denS ta), .string { data := #[] }, .bool false, .int .i64 0, .int .i64 0, .int .i64 0, .slice none 0 0])
  f38 : (listed.getD 31 false = true → s49 = .agg #[.int .i64 va.k, .string va.n, .string va.d, .string va.t, .bool va.on, .int .i64 va.c, .int .i64 va.r, .int .i64 va.s, .slice va.A va.L va.C])
  f39 : (listed.getD 32 false = true → ¬ listed.getD 33 false = true → ∃ G, s50 = .slice (some ⟨G, 0, none⟩) 1 1 ∧ W.heap[G]? = some (.cells #[.int .i64 va.k, .string va.n, .string va.d, .string va.t, .bool va.on, .int .i64 va.c, .int .i64 va.r, .int .i64 va.s, .slice va.A va.L va.C] 27 (0, 0)))
  f40 : (listed.getD 33 false = true → s51 = .agg #[.int .i64 1, .string (numS ta), .string (denS ta), .string { data := #[] }, .bool false, .int .i64 0, .int .i64 0, .int .i64 0, .slice none 0 0])
  f41 : (listed.getD 34 false = true → s52 = .bool true)
  f42 : (listed.getD 35 false = true → s53 = .bool true)
  f43 : (listed.getD 36 false = true → s54 = .bool true)
  f44 : (listed.getD 37 false = true → s55 = .agg #[.int .i64 va.k, .string va.n, .string va.d, .string va.t, .bool va.on, .int .i64 va.c, .int .i64 va.r, .int .i64 va.s, .slice va.A va.L va.C])
  f45 : (listed.getD 38 false = true → s56 = .agg #[.int .i64 va.k, .string va.n, .string va.d, .string va.t, .bool va.on, .int .i64 va.c, .int .i64 va.r, .int .i64 va.s, .slice va.A va.L va.C])
  f46 : (listed.getD 39 false = true → ¬ listed.getD 40 false = true → ∃ G, s57 = .slice (some ⟨G, 0, none⟩) 2 2 ∧ W.heap[G]? = some (.cells #[.int .i64 va.k, .string va.n, .string va.d, .string va.t, .bool va.on, .int .i64 va.c, .int .i64 va.r, .int .i64 va.s, .slice va.A va.L va.C, .int .i64 va.k, .string va.n, .string va.d, .string va.t, .bool va.on, .int .i64 va.c, .int .i64 va.r, .int .i64 va.s, .slice va.A va.L va.C] 27 (0, 0)))
  f47 : (listed.getD 40 false = true → s58 = .agg #[.int .i64 1, .string (numS z), .string (denS z), .string { data := #[] }, .bool false, .int .i64 0, .int .i64 0, .int .i64 0, .slice none 0 0])
  f48 : (listed.getD 41 false = true → s59 = .agg #[.int .i64 1, .string (numS z), .string (denS z), .string { data := #[] }, .bool false, .int .i64 0, .int .i64 0, .int .i64 0, .slice none 0 0])
  f49 : (listed.getD 42 false = true → s60 = .bool true)
  f50 : (listed.getD 43 false = true → s61 = .bool true)
  f51 : (listed.getD 44 false = true → s4 = .bool true)

attribute [local irreducible] wpOp
set_option maxHeartbeats 16000000 in
set_option maxRecDepth 100000 in
theorem sums_walk (l m : Value) (qa qb : List Rat) (p1 p2 sab sa sb tab ta tb z : Rat) (d3 : ByteArray) (w : World) (hE : Env w)
    (hl : ArrGives w l qa) (hm : ArrGives w m qb) (h1 : (∀ W, Env W → Calls Tryz.prog 11 #[.int .i64 1] W fun e w' => e = .returned (numVal p1) ∧ Below W.heap.size W w')) (h2 : (∀ W, Env W → Calls Tryz.prog 11 #[.int .i64 2] W fun e w' => e = .returned (numVal p2) ∧ Below W.heap.size W w')) (h0 : (∀ W, Env W → Calls Tryz.prog 11 #[.int .i64 0] W fun e w' => e = .returned (numVal z) ∧ Below W.heap.size W w'))
    (t3 : ∀ (W : World) (B C : Nat), ValsAt W B 0 (numVals [p1, p2]) → Env W → Calls Tryz.prog 10 #[.string { data := #[83, 85, 77] }, .slice (some ⟨B, 0, none⟩) 2 C] W fun e w' => e = .returned (.agg #[.int .i64 1, .string { data := #[51] }, .string d3, .string { data := #[] }, .bool false, .int .i64 0, .int .i64 0, .int .i64 0, .slice none 0 0]) ∧ Below W.heap.size W w')
    (k1 : Math2A { data := #[83, 85, 77] } qa qb sab) (k2 : Math1A { data := #[83, 85, 77] } qa sa) (k3 : Math1A { data := #[83, 85, 77] } qb sb) (k4 : Math2A { data := #[83, 85, 77, 83, 81] } qa qb tab) (k5 : Math1A { data := #[83, 85, 77, 83, 81] } qa ta) (k6 : Math1A { data := #[83, 85, 77, 83, 81] } qb tb) (k7 : Math2A { data := #[83, 85, 77, 80, 82, 79, 68, 85, 67, 84] } qa qa ta) (k8 : Math2A { data := #[83, 85, 77, 88, 77, 89, 50] } qa qa z)
    (hp : (∀ W, Env W → Calls Tryz.prog 13 #[numVal sa, numVal sb] W fun e w' => e = .returned (numVal sab) ∧ Below W.heap.size W w')) (hq : (∀ W, Env W → Calls Tryz.prog 13 #[numVal ta, numVal tb] W fun e w' => e = .returned (numVal tab) ∧ Below W.heap.size W w')) :
    Calls Tryz.prog 7 #[l, m] w fun e w' => e = .returned (.bool true) ∧ Below w.heap.size w w' := by
  unfold ArrGives at hl hm
  unfold Math2A at k1 k4 k7 k8
  unfold Math1A at k2 k3 k5 k6
  have TL := Lib.hid hl
  have TM := Lib.hid hm
  have T1 := Lib.hid h1
  have T2 := Lib.hid h2
  have T0 := Lib.hid h0
  rw [numVal_is] at T1 T2 T0
  have R3 := Lib.hid (fun (W : World) g => t3 _ _ 2 (block2 p1 p2 W) g)
  have K1 := Lib.hid k1
  have K2 := Lib.hid k2
  have K3 := Lib.hid k3
  have K4 := Lib.hid k4
  have K5 := Lib.hid k5
  have K6 := Lib.hid k6
  have K7 := Lib.hid k7
  have K8 := Lib.hid k8
  rw [numVal_is] at K1 K2 K3 K4 K5 K6 K7 K8
  have TP := Lib.hid hp
  have TQ := Lib.hid hq
  rw [numVal_is sa, numVal_is sb, numVal_is sab] at TP
  rw [numVal_is ta, numVal_is tb, numVal_is tab] at TQ
  have HE := Lib.hid hE
  have HL := Lib.hid (Below.refl w.heap.size w)
  clear hE hl hm h1 h2 h0 t3 k1 k2 k3 k4 k5 k6 k7 k8 hp hq
  have hf1 : ∀ w : World, (Instr.field 27 (.agg #[.int .i64 1, .string { data := #[51] }, .string d3, .string { data := #[] }, .bool false, .int .i64 0, .int .i64 0, .int .i64 0, .slice none 0 0]) 1).run Tryz.prog w = .ok (.agg #[.string { data := #[51] }, .string d3]) w := fun _ => by kernel_rfl
  have hf2 : ∀ w : World, (Instr.field 24 (.agg #[.string { data := #[51] }, .string d3]) 0).run Tryz.prog w = .ok (.string { data := #[51] }) w := fun _ => by kernel_rfl
  go_enter Tryz.func7, Tryz.ntmps7
  go_wp2_with fail
  refine (TL.out _ HL.out).mono ?_
  rintro e w1 ⟨va, ra, rfl, hpa, hq⟩
  replace HE := Lib.hid (HE.out.below hq)
  replace HL := Lib.hid (HL.out.trans (hq.mono HL.out.size))
  clear hq
  have PA := Lib.hid hpa
  clear hpa
  go_wp2_with fail
  refine (TM.out _ HL.out).mono ?_
  rintro e w2 ⟨vb, rb, rfl, hpb, hq⟩
  replace HE := Lib.hid (HE.out.below hq)
  replace HL := Lib.hid (HL.out.trans (hq.mono HL.out.size))
  replace PA := Lib.hid (PA.out.below hq)
  clear hq
  have PB := Lib.hid hpb
  clear hpb
  have hq : Below w2.heap.size w2 ((w2.alloc (.cells #[.int .i64 va.k, .string va.n, .string va.d, .string va.t, .bool va.on, .int .i64 va.c, .int .i64 va.r, .int .i64 va.s, .slice va.A va.L va.C] 27)).alloc (.cells #[.int .i64 vb.k, .string vb.n, .string vb.d, .string vb.t, .bool vb.on, .int .i64 vb.c, .int .i64 vb.r, .int .i64 vb.s, .slice vb.A vb.L vb.C] 27)) := ((Below.refl _ _).alloc (Nat.le_refl _) _).alloc (by simp) _
  replace HE := Lib.hid (HE.out.below hq)
  replace HL := Lib.hid (HL.out.trans (hq.mono HL.out.size))
  replace PA := Lib.hid (PA.out.below hq)
  replace PB := Lib.hid (PB.out.below hq)
  obtain ⟨hx, hy, _⟩ := two_new w2 (.cells #[.int .i64 va.k, .string va.n, .string va.d, .string va.t, .bool va.on, .int .i64 va.c, .int .i64 va.r, .int .i64 va.s, .slice va.A va.L va.C] 27) (.cells #[.int .i64 vb.k, .string vb.n, .string vb.d, .string vb.t, .bool vb.on, .int .i64 vb.c, .int .i64 vb.r, .int .i64 vb.s, .slice vb.A vb.L vb.C] 27)
  have HX := Lib.hid hx
  have HY := Lib.hid hy
  clear hq hx hy
  obtain ⟨WA, hWA⟩ : ∃ Z, (w2.alloc (.cells #[.int .i64 va.k, .string va.n, .string va.d, .string va.t, .bool va.on, .int .i64 va.c, .int .i64 va.r, .int .i64 va.s, .slice va.A va.L va.C] 27)).alloc (.cells #[.int .i64 vb.k, .string vb.n, .string vb.d, .string vb.t, .bool vb.on, .int .i64 vb.c, .int .i64 vb.r, .int .i64 vb.s, .slice vb.A vb.L vb.C] 27) = Z := ⟨_, rfl⟩
  rw [hWA] at HE HL HX HY PA PB
  have EWA := Lib.hid hWA
  clear hWA
  go_wp2_with fail
  rw [EWA.out]
  refine (T1.out _ HE.out).mono ?_
  rintro e w3 ⟨rfl, hq⟩
  replace HE := Lib.hid (HE.out.below hq)
  replace HL := Lib.hid (HL.out.trans (hq.mono HL.out.size))
  replace HX := Lib.hid (keep_block HX.out hq)
  replace HY := Lib.hid (keep_block HY.out hq)
  replace PA := Lib.hid (PA.out.below hq)
  replace PB := Lib.hid (PB.out.below hq)
  clear hq
  go_wp2_with fail
  refine (T2.out _ HE.out).mono ?_
  rintro e w4 ⟨rfl, hq⟩
  replace HE := Lib.hid (HE.out.below hq)
  replace HL := Lib.hid (HL.out.trans (hq.mono HL.out.size))
  replace HX := Lib.hid (keep_block HX.out hq)
  replace HY := Lib.hid (keep_block HY.out hq)
  replace PA := Lib.hid (PA.out.below hq)
  replace PB := Lib.hid (PB.out.below hq)
  clear hq
  have hq : Below w4.heap.size w4 (w4.alloc (.cells #[.int .i64 1, .string (numS p1), .string (denS p1), .string { data := #[] }, .bool false, .int .i64 0, .int .i64 0, .int .i64 0, .slice none 0 0, .int .i64 1, .string (numS p2), .string (denS p2), .string { data := #[] }, .bool false, .int .i64 0, .int .i64 0, .int .i64 0, .slice none 0 0] 27)) := (Below.refl _ _).alloc (Nat.le_refl _) _
  replace HE := Lib.hid (HE.out.below hq)
  replace HL := Lib.hid (HL.out.trans (hq.mono HL.out.size))
  replace HX := Lib.hid (keep_block HX.out hq)
  replace HY := Lib.hid (keep_block HY.out hq)
  replace PA := Lib.hid (PA.out.below hq)
  replace PB := Lib.hid (PB.out.below hq)
  have HZ := Lib.hid (heap_alloc_new w4 (.cells #[.int .i64 1, .string (numS p1), .string (denS p1), .string { data := #[] }, .bool false, .int .i64 0, .int .i64 0, .int .i64 0, .slice none 0 0, .int .i64 1, .string (numS p2), .string (denS p2), .string { data := #[] }, .bool false, .int .i64 0, .int .i64 0, .int .i64 0, .slice none 0 0] 27))
  clear hq
  go_wp2_with fail
  refine (R3.out _ HE.out).mono ?_
  rintro e w5 ⟨rfl, hq⟩
  replace HE := Lib.hid (HE.out.below hq)
  replace HL := Lib.hid (HL.out.trans (hq.mono HL.out.size))
  replace HX := Lib.hid (keep_block HX.out hq)
  replace HY := Lib.hid (keep_block HY.out hq)
  replace HZ := Lib.hid (keep_block HZ.out hq)
  replace PA := Lib.hid (PA.out.below hq)
  replace PB := Lib.hid (PB.out.below hq)
  clear hq
  go_wp2_with fail
  have HL0 := Lib.hid HL.out.size
  have HP0 := Lib.hid HE.out.room
  have HX0 := HX
  have HY0 := HY
  refine wp_region_by [18, 19, 20, 21, 22, 23, 24, 25, 26, 27, 28, 29, 30, 31, 32, 33, 34, 35, 36, 37, 38, 39, 40, 41, 42, 43, 44, 45, 46, 47, 48, 49, 50, 51, 52, 53, 54, 55, 56, 57, 58, 59, 60, 61, 4] (fun listed vs W => ∃ (s18 : Value) (s19 : Value) (s20 : Value) (s21 : Value) (s22 : Value) (s23 : Value) (s24 : Value) (s25 : Value) (s26 : Value) (s27 : Value) (s28 : Value) (s29 : Value) (s30 : Value) (s31 : Value) (s32 : Value) (s33 : Value) (s34 : Value) (s35 : Value) (s36 : Value) (s37 : Value) (s38 : Value) (s39 : Value) (s40 : Value) (s41 : Value) (s42 : Value) (s43 : Value) (s44 : Value) (s45 : Value) (s46 : Value) (s47 : Value) (s48 : Value) (s49 : Value) (s50 : Value) (s51 : Value) (s52 : Value) (s53 : Value) (s54 : Value) (s55 : Value) (s56 : Value) (s57 : Value) (s58 : Value) (s59 : Value) (s60 : Value) (s61 : Value) (s4 : Value), vs = [s18, s19, s20, s21, s22, s23, s24, s25, s26, s27, s28, s29, s30, s31, s32, s33, s34, s35, s36, s37, s38, s39, s40, s41, s42, s43, s44, s45, s46, s47, s48, s49, s50, s51, s52, s53, s54, s55, s56, s57, s58, s59, s60, s61, s4] ∧ SumsJ w w2 w5 va vb ra rb qa qb sab sa sb tab ta tb z s18 s19 s20 s21 s22 s23 s24 s25 s26 s27 s28 s29 s30 s31 s32 s33 s34 s35 s36 s37 s38 s39 s40 s41 s42 s43 s44 s45 s46 s47 s48 s49 s50 s51 s52 s53 s54 s55 s56 s57 s58 s59 s60 s61 s4 listed W) (by kernel_rfl) (by kernel_rfl) [undef, undef, undef, undef, undef, undef, undef, undef, undef, undef, undef, undef, undef, undef, undef, undef, undef, undef, undef, undef, undef, undef, undef, undef, undef, undef, undef, undef, undef, undef, undef, undef, undef, undef, undef, undef, undef, undef, undef, undef, undef, undef, undef, undef, (.bool false)] ?h00 ?h0 ?hs ?hd
  case h00 => simp only [putAll, List.zip_cons_cons, List.zip_nil_right, List.foldl_cons, List.foldl_nil, List.setIfInBounds_toArray, List.set_cons_zero, List.set_cons_succ]
  · exact ⟨_, _, _, _, _, _, _, _, _, _, _, _, _, _, _, _, _, _, _, _, _, _, _, _, _, _, _, _, _, _, _, _, _, _, _, _, _, _, _, _, _, _, _, _, _, rfl, ⟨HE.out.below (Below.refl _ _).drew, HL.out.drew, Nat.le_refl _, drew_block HX.out, drew_block HY.out, PA.out.below (Below.refl _ _).drew, PB.out.below (Below.refl _ _).drew, fun h => absurd h bit_none, fun h => absurd h bit_none, fun h => absurd h bit_none, fun h => absurd h bit_none, fun h => absurd h bit_none, fun h => absurd h bit_none, fun h => absurd h bit_none, fun h => absurd h bit_none, fun h => absurd h bit_none, fun h => absurd h bit_none, fun h => absurd h bit_none, fun h => absurd h bit_none, fun h => absurd h bit_none, fun h => absurd h bit_none, fun h => absurd h bit_none, fun h => absurd h bit_none, fun h => absurd h bit_none, fun h => absurd h bit_none, fun h => absurd h bit_none, fun h => absurd h bit_none, fun h => absurd h bit_none, fun h => absurd h bit_none, fun h => absurd h bit_none, fun h => absurd h bit_none, fun h => absurd h bit_none, fun h => absurd h bit_none, fun h => absurd h bit_none, fun h => absurd h bit_none, fun h => absurd h bit_none, fun h => absurd h bit_none, fun h => absurd h bit_none, fun h => absurd h bit_none, fun h => absurd h bit_none, fun h => absurd h bit_none, fun h => absurd h bit_none, fun h => absurd h bit_none, fun h => absurd h bit_none, fun h => absurd h bit_none, fun h => absurd h bit_none, fun h => absurd h bit_none, fun h => absurd h bit_none, fun h => absurd h bit_none, fun h => absurd h bit_none, fun h => absurd h bit_none, fun h => absurd h bit_none⟩⟩
  · rintro listed vs W ⟨s18, s19, s20, s21, s22, s23, s24, s25, s26, s27, s28, s29, s30, s31, s32, s33, s34, s35, s36, s37, s38, s39, s40, s41, s42, s43, s44, s45, s46, s47, s48, s49, s50, s51, s52, s53, s54, s55, s56, s57, s58, s59, s60, s61, s4, rfl, hb⟩ i hi hun hpre
    have HB := Lib.hid hb
    have hi : i < 45 := hi
    clear hb
    have hge := Nat.zero_le i
    rcases Nat.lt_or_ge i 22 with hlt | hgt
    · replace hi := hlt
      clear hlt
      rcases Nat.lt_or_ge i 11 with hlt | hgt
      · replace hi := hlt
        clear hlt
        rcases Nat.lt_or_ge i 5 with hlt | hgt
        · replace hi := hlt
          clear hlt
          rcases Nat.lt_or_ge i 2 with hlt | hgt
          · replace hi := hlt
            clear hlt
            rcases Nat.lt_or_ge i 1 with hlt | hgt
            · replace hi := hlt
              clear hlt
              have he : i = 0 := Nat.le_antisymm (Nat.le_of_lt_succ hi) hge
              subst he
              have q9 := (nine_at HB.out.f3).1
              have cHX0 := q9.1
              have cHX1 := q9.2.1
              have cHX2 := q9.2.2.1
              have cHX3 := q9.2.2.2.1
              have cHX4 := q9.2.2.2.2.1
              have cHX5 := q9.2.2.2.2.2.1
              have cHX6 := q9.2.2.2.2.2.2.1
              have cHX7 := q9.2.2.2.2.2.2.2.1
              have cHX8 := q9.2.2.2.2.2.2.2.2
              clear q9
              refine step_of ⟨some 18, _, _, _, _, _⟩ rfl (fun K' hK => ?_)
              simp only [putAll, List.zip_cons_cons, List.zip_nil_right, List.foldl_cons, List.foldl_nil, List.setIfInBounds_toArray, List.set_cons_zero, List.set_cons_succ]
              go_simp
              refine hK.out _ _ ⟨_, ⟨.agg #[.int .i64 va.k, .string va.n, .string va.d, .string va.t, .bool va.on, .int .i64 va.c, .int .i64 va.r, .int .i64 va.s, .slice va.A va.L va.C], s19, s20, s21, s22, s23, s24, s25, s26, s27, s28, s29, s30, s31, s32, s33, s34, s35, s36, s37, s38, s39, s40, s41, s42, s43, s44, s45, s46, s47, s48, s49, s50, s51, s52, s53, s54, s55, s56, s57, s58, s59, s60, s61, s4, rfl, ?_⟩, ?fr⟩
              case fr => simp only [putAll, List.zip_cons_cons, List.zip_nil_right, List.foldl_cons, List.foldl_nil, List.setIfInBounds_toArray, List.set_cons_zero, List.set_cons_succ]
              exact ⟨HB.out.f0, HB.out.f1, HB.out.f2, HB.out.f3, HB.out.f4, HB.out.f5, HB.out.f6, fun _ => rfl, bq HB.out.f8, bq2 HB.out.f9, bq HB.out.f10, bq HB.out.f11, bq2 HB.out.f12, bq HB.out.f13, bq HB.out.f14, bq2 HB.out.f15, bq HB.out.f16, bq HB.out.f17, bq HB.out.f18, bq HB.out.f19, bq HB.out.f20, bq HB.out.f21, bq2 HB.out.f22, bq HB.out.f23, bq HB.out.f24, bq2 HB.out.f25, bq HB.out.f26, bq HB.out.f27, bq2 HB.out.f28, bq HB.out.f29, bq HB.out.f30, bq HB.out.f31, bq HB.out.f32, bq HB.out.f33, bq HB.out.f34, bq HB.out.f35, bq2 HB.out.f36, bq HB.out.f37, bq HB.out.f38, bq2 HB.out.f39, bq HB.out.f40, bq HB.out.f41, bq HB.out.f42, bq HB.out.f43, bq HB.out.f44, bq HB.out.f45, bq2 HB.out.f46, bq HB.out.f47, bq HB.out.f48, bq HB.out.f49, bq HB.out.f50, bq HB.out.f51⟩
            · replace hge : 1 ≤ i := hgt
              clear hgt
              have he : i = 1 := Nat.le_antisymm (Nat.le_of_lt_succ hi) hge
              subst he
              have q9 := (nine_at HB.out.f4).1
              have cHY0 := q9.1
              have cHY1 := q9.2.1
              have cHY2 := q9.2.2.1
              have cHY3 := q9.2.2.2.1
              have cHY4 := q9.2.2.2.2.1
              have cHY5 := q9.2.2.2.2.2.1
              have cHY6 := q9.2.2.2.2.2.2.1
              have cHY7 := q9.2.2.2.2.2.2.2.1
              have cHY8 := q9.2.2.2.2.2.2.2.2
              clear q9
              refine step_of ⟨some 19, _, _, _, _, _⟩ rfl (fun K' hK => ?_)
              simp only [putAll, List.zip_cons_cons, List.zip_nil_right, List.foldl_cons, List.foldl_nil, List.setIfInBounds_toArray, List.set_cons_zero, List.set_cons_succ]
              go_simp
              refine hK.out _ _ ⟨_, ⟨s18, .agg #[.int .i64 vb.k, .string vb.n, .string vb.d, .string vb.t, .bool vb.on, .int .i64 vb.c, .int .i64 vb.r, .int .i64 vb.s, .slice vb.A vb.L vb.C], s20, s21, s22, s23, s24, s25, s26, s27, s28, s29, s30, s31, s32, s33, s34, s35, s36, s37, s38, s39, s40, s41, s42, s43, s44, s45, s46, s47, s48, s49, s50, s51, s52, s53, s54, s55, s56, s57, s58, s59, s60, s61, s4, rfl, ?_⟩, ?fr⟩
              case fr => simp only [putAll, List.zip_cons_cons, List.zip_nil_right, List.foldl_cons, List.foldl_nil, List.setIfInBounds_toArray, List.set_cons_zero, List.set_cons_succ]
              exact ⟨HB.out.f0, HB.out.f1, HB.out.f2, HB.out.f3, HB.out.f4, HB.out.f5, HB.out.f6, bq HB.out.f7, fun _ => rfl, bq2 HB.out.f9, bq HB.out.f10, bq HB.out.f11, bq2 HB.out.f12, bq HB.out.f13, bq HB.out.f14, bq2 HB.out.f15, bq HB.out.f16, bq HB.out.f17, bq HB.out.f18, bq HB.out.f19, bq HB.out.f20, bq HB.out.f21, bq2 HB.out.f22, bq HB.out.f23, bq HB.out.f24, bq2 HB.out.f25, bq HB.out.f26, bq HB.out.f27, bq2 HB.out.f28, bq HB.out.f29, bq HB.out.f30, bq HB.out.f31, bq HB.out.f32, bq HB.out.f33, bq HB.out.f34, bq HB.out.f35, bq2 HB.out.f36, bq HB.out.f37, bq HB.out.f38, bq2 HB.out.f39, bq HB.out.f40, bq HB.out.f41, bq HB.out.f42, bq HB.out.f43, bq HB.out.f44, bq HB.out.f45, bq2 HB.out.f46, bq HB.out.f47, bq HB.out.f48, bq HB.out.f49, bq HB.out.f50, bq HB.out.f51⟩
          · replace hge : 2 ≤ i := hgt
            clear hgt
            rcases Nat.lt_or_ge i 3 with hlt | hgt
            · replace hi := hlt
              clear hlt
              have he : i = 2 := Nat.le_antisymm (Nat.le_of_lt_succ hi) hge
              subst he
              have p0 := hpre 0 (by kernel_rfl)
              have e0 := HB.out.f7 p0
              subst e0
              have p1 := hpre 1 (by kernel_rfl)
              have e1 := HB.out.f8 p1
              subst e1
              refine step_of ⟨some 20, _, _, _, _, _⟩ rfl (fun K' hK => ?_)
              simp only [putAll, List.zip_cons_cons, List.zip_nil_right, List.foldl_cons, List.foldl_nil, List.setIfInBounds_toArray, List.set_cons_zero, List.set_cons_succ]
              go_simp
              have hq : Below W.heap.size W (W.alloc (.cells #[.int .i64 va.k, .string va.n, .string va.d, .string va.t, .bool va.on, .int .i64 va.c, .int .i64 va.r, .int .i64 va.s, .slice va.A va.L va.C, .int .i64 vb.k, .string vb.n, .string vb.d, .string vb.t, .bool vb.on, .int .i64 vb.c, .int .i64 vb.r, .int .i64 vb.s, .slice vb.A vb.L vb.C] 27)) := (Below.refl _ _).alloc (Nat.le_refl _) _
              refine hK.out _ _ ⟨_, ⟨.agg #[.int .i64 va.k, .string va.n, .string va.d, .string va.t, .bool va.on, .int .i64 va.c, .int .i64 va.r, .int .i64 va.s, .slice va.A va.L va.C], .agg #[.int .i64 vb.k, .string vb.n, .string vb.d, .string vb.t, .bool vb.on, .int .i64 vb.c, .int .i64 vb.r, .int .i64 vb.s, .slice vb.A vb.L vb.C], .slice (some ⟨W.heap.size, 0, none⟩) 2 2, s21, s22, s23, s24, s25, s26, s27, s28, s29, s30, s31, s32, s33, s34, s35, s36, s37, s38, s39, s40, s41, s42, s43, s44, s45, s46, s47, s48, s49, s50, s51, s52, s53, s54, s55, s56, s57, s58, s59, s60, s61, s4, rfl, ?_⟩, ?fr⟩
              case fr => simp only [putAll, List.zip_cons_cons, List.zip_nil_right, List.foldl_cons, List.foldl_nil, List.setIfInBounds_toArray, List.set_cons_zero, List.set_cons_succ]
              exact ⟨(HB.out.f0).below hq, (HB.out.f1).trans (hq.mono (HB.out.f1).size), Nat.le_trans (HB.out.f2) hq.size, keep_block (HB.out.f3) hq, keep_block (HB.out.f4) hq, (HB.out.f5).below hq, (HB.out.f6).below hq, bq HB.out.f7, bq HB.out.f8, fun _ _ => ⟨W.heap.size, rfl, heap_alloc_new W _⟩, bq HB.out.f10, bq HB.out.f11, bq3 hq HB.out.f12, bq HB.out.f13, bq HB.out.f14, bq3 hq HB.out.f15, bq HB.out.f16, bq HB.out.f17, bq HB.out.f18, bq HB.out.f19, bq HB.out.f20, bq HB.out.f21, bq3 hq HB.out.f22, bq HB.out.f23, bq HB.out.f24, bq3 hq HB.out.f25, bq HB.out.f26, bq HB.out.f27, bq3 hq HB.out.f28, bq HB.out.f29, bq HB.out.f30, bq HB.out.f31, bq HB.out.f32, bq HB.out.f33, bq HB.out.f34, bq HB.out.f35, bq3 hq HB.out.f36, bq HB.out.f37, bq HB.out.f38, bq3 hq HB.out.f39, bq HB.out.f40, bq HB.out.f41, bq HB.out.f42, bq HB.out.f43, bq HB.out.f44, bq HB.out.f45, bq3 hq HB.out.f46, bq HB.out.f47, bq HB.out.f48, bq HB.out.f49, bq HB.out.f50, bq HB.out.f51⟩
            · replace hge : 3 ≤ i := hgt
              clear hgt
              rcases Nat.lt_or_ge i 4 with hlt | hgt
              · replace hi := hlt
                clear hlt
                have he : i = 3 := Nat.le_antisymm (Nat.le_of_lt_succ hi) hge
                subst he
                have p2 := hpre 2 (by kernel_rfl)
                obtain ⟨G, hG, hGB⟩ := HB.out.f9 p2 (bit_off hun)
                subst hG
                refine step_of ⟨some 21, _, _, _, _, _⟩ rfl (fun K' hK => ?_)
                simp only [putAll, List.zip_cons_cons, List.zip_nil_right, List.foldl_cons, List.foldl_nil, List.setIfInBounds_toArray, List.set_cons_zero, List.set_cons_succ]
                go_simp
                go_at_call 10
                (with_reducible refine (K1.out _ G 2 va vb ra rb (vals_of_block hGB rfl) (HB.out.f5) (HB.out.f6) HB.out.f0).mono ?_)
                rintro e W2 ⟨rfl, hq⟩
                refine hK.out _ _ ⟨_, ⟨s18, s19, .slice (some ⟨G, 0, none⟩) 2 2, .agg #[.int .i64 1, .string (numS sab), .string (denS sab), .string { data := #[] }, .bool false, .int .i64 0, .int .i64 0, .int .i64 0, .slice none 0 0], s22, s23, s24, s25, s26, s27, s28, s29, s30, s31, s32, s33, s34, s35, s36, s37, s38, s39, s40, s41, s42, s43, s44, s45, s46, s47, s48, s49, s50, s51, s52, s53, s54, s55, s56, s57, s58, s59, s60, s61, s4, rfl, ?_⟩, ?fr⟩
                case fr => simp only [putAll, List.zip_cons_cons, List.zip_nil_right, List.foldl_cons, List.foldl_nil, List.setIfInBounds_toArray, List.set_cons_zero, List.set_cons_succ]
                exact ⟨(HB.out.f0).below hq, (HB.out.f1).trans (hq.mono (HB.out.f1).size), Nat.le_trans (HB.out.f2) hq.size, keep_block (HB.out.f3) hq, keep_block (HB.out.f4) hq, (HB.out.f5).below hq, (HB.out.f6).below hq, bq HB.out.f7, bq HB.out.f8, fun h h2 => absurd (bit_self hun) h2, fun _ => rfl, bq HB.out.f11, bq3 hq HB.out.f12, bq HB.out.f13, bq HB.out.f14, bq3 hq HB.out.f15, bq HB.out.f16, bq HB.out.f17, bq HB.out.f18, bq HB.out.f19, bq HB.out.f20, bq HB.out.f21, bq3 hq HB.out.f22, bq HB.out.f23, bq HB.out.f24, bq3 hq HB.out.f25, bq HB.out.f26, bq HB.out.f27, bq3 hq HB.out.f28, bq HB.out.f29, bq HB.out.f30, bq HB.out.f31, bq HB.out.f32, bq HB.out.f33, bq HB.out.f34, bq HB.out.f35, bq3 hq HB.out.f36, bq HB.out.f37, bq HB.out.f38, bq3 hq HB.out.f39, bq HB.out.f40, bq HB.out.f41, bq HB.out.f42, bq HB.out.f43, bq HB.out.f44, bq HB.out.f45, bq3 hq HB.out.f46, bq HB.out.f47, bq HB.out.f48, bq HB.out.f49, bq HB.out.f50, bq HB.out.f51⟩
              · replace hge : 4 ≤ i := hgt
                clear hgt
                have he : i = 4 := Nat.le_antisymm (Nat.le_of_lt_succ hi) hge
                subst he
                have q9 := (nine_at HB.out.f3).1
                have cHX0 := q9.1
                have cHX1 := q9.2.1
                have cHX2 := q9.2.2.1
                have cHX3 := q9.2.2.2.1
                have cHX4 := q9.2.2.2.2.1
                have cHX5 := q9.2.2.2.2.2.1
                have cHX6 := q9.2.2.2.2.2.2.1
                have cHX7 := q9.2.2.2.2.2.2.2.1
                have cHX8 := q9.2.2.2.2.2.2.2.2
                clear q9
                refine step_of ⟨some 22, _, _, _, _, _⟩ rfl (fun K' hK => ?_)
                simp only [putAll, List.zip_cons_cons, List.zip_nil_right, List.foldl_cons, List.foldl_nil, List.setIfInBounds_toArray, List.set_cons_zero, List.set_cons_succ]
                go_simp
                refine hK.out _ _ ⟨_, ⟨s18, s19, s20, s21, .agg #[.int .i64 va.k, .string va.n, .string va.d, .string va.t, .bool va.on, .int .i64 va.c, .int .i64 va.r, .int .i64 va.s, .slice va.A va.L va.C], s23, s24, s25, s26, s27, s28, s29, s30, s31, s32, s33, s34, s35, s36, s37, s38, s39, s40, s41, s42, s43, s44, s45, s46, s47, s48, s49, s50, s51, s52, s53, s54, s55, s56, s57, s58, s59, s60, s61, s4, rfl, ?_⟩, ?fr⟩
                case fr => simp only [putAll, List.zip_cons_cons, List.zip_nil_right, List.foldl_cons, List.foldl_nil, List.setIfInBounds_toArray, List.set_cons_zero, List.set_cons_succ]
                exact ⟨HB.out.f0, HB.out.f1, HB.out.f2, HB.out.f3, HB.out.f4, HB.out.f5, HB.out.f6, bq HB.out.f7, bq HB.out.f8, bq2 HB.out.f9, bq HB.out.f10, fun _ => rfl, bq2 HB.out.f12, bq HB.out.f13, bq HB.out.f14, bq2 HB.out.f15, bq HB.out.f16, bq HB.out.f17, bq HB.out.f18, bq HB.out.f19, bq HB.out.f20, bq HB.out.f21, bq2 HB.out.f22, bq HB.out.f23, bq HB.out.f24, bq2 HB.out.f25, bq HB.out.f26, bq HB.out.f27, bq2 HB.out.f28, bq HB.out.f29, bq HB.out.f30, bq HB.out.f31, bq HB.out.f32, bq HB.out.f33, bq HB.out.f34, bq HB.out.f35, bq2 HB.out.f36, bq HB.out.f37, bq HB.out.f38, bq2 HB.out.f39, bq HB.out.f40, bq HB.out.f41, bq HB.out.f42, bq HB.out.f43, bq HB.out.f44, bq HB.out.f45, bq2 HB.out.f46, bq HB.out.f47, bq HB.out.f48, bq HB.out.f49, bq HB.out.f50, bq HB.out.f51⟩
        · replace hge : 5 ≤ i := hgt
          clear hgt
          rcases Nat.lt_or_ge i 8 with hlt | hgt
          · replace hi := hlt
            clear hlt
            rcases Nat.lt_or_ge i 6 with hlt | hgt
            · replace hi := hlt
              clear hlt
              have he : i = 5 := Nat.le_antisymm (Nat.le_of_lt_succ hi) hge
              subst he
              have p4 := hpre 4 (by kernel_rfl)
              have e4 := HB.out.f11 p4
              subst e4
              refine step_of ⟨some 23, _, _, _, _, _⟩ rfl (fun K' hK => ?_)
              simp only [putAll, List.zip_cons_cons, List.zip_nil_right, List.foldl_cons, List.foldl_nil, List.setIfInBounds_toArray, List.set_cons_zero, List.set_cons_succ]
              go_simp
              have hq : Below W.heap.size W (W.alloc (.cells #[.int .i64 va.k, .string va.n, .string va.d, .string va.t, .bool va.on, .int .i64 va.c, .int .i64 va.r, .int .i64 va.s, .slice va.A va.L va.C] 27)) := (Below.refl _ _).alloc (Nat.le_refl _) _
              refine hK.out _ _ ⟨_, ⟨s18, s19, s20, s21, .agg #[.int .i64 va.k, .string va.n, .string va.d, .string va.t, .bool va.on, .int .i64 va.c, .int .i64 va.r, .int .i64 va.s, .slice va.A va.L va.C], .slice (some ⟨W.heap.size, 0, none⟩) 1 1, s24, s25, s26, s27, s28, s29, s30, s31, s32, s33, s34, s35, s36, s37, s38, s39, s40, s41, s42, s43, s44, s45, s46, s47, s48, s49, s50, s51, s52, s53, s54, s55, s56, s57, s58, s59, s60, s61, s4, rfl, ?_⟩, ?fr⟩
              case fr => simp only [putAll, List.zip_cons_cons, List.zip_nil_right, List.foldl_cons, List.foldl_nil, List.setIfInBounds_toArray, List.set_cons_zero, List.set_cons_succ]
              exact ⟨(HB.out.f0).below hq, (HB.out.f1).trans (hq.mono (HB.out.f1).size), Nat.le_trans (HB.out.f2) hq.size, keep_block (HB.out.f3) hq, keep_block (HB.out.f4) hq, (HB.out.f5).below hq, (HB.out.f6).below hq, bq HB.out.f7, bq HB.out.f8, bq3 hq HB.out.f9, bq HB.out.f10, bq HB.out.f11, fun _ _ => ⟨W.heap.size, rfl, heap_alloc_new W _⟩, bq HB.out.f13, bq HB.out.f14, bq3 hq HB.out.f15, bq HB.out.f16, bq HB.out.f17, bq HB.out.f18, bq HB.out.f19, bq HB.out.f20, bq HB.out.f21, bq3 hq HB.out.f22, bq HB.out.f23, bq HB.out.f24, bq3 hq HB.out.f25, bq HB.out.f26, bq HB.out.f27, bq3 hq HB.out.f28, bq HB.out.f29, bq HB.out.f30, bq HB.out.f31, bq HB.out.f32, bq HB.out.f33, bq HB.out.f34, bq HB.out.f35, bq3 hq HB.out.f36, bq HB.out.f37, bq HB.out.f38, bq3 hq HB.out.f39, bq HB.out.f40, bq HB.out.f41, bq HB.out.f42, bq HB.out.f43, bq HB.out.f44, bq HB.out.f45, bq3 hq HB.out.f46, bq HB.out.f47, bq HB.out.f48, bq HB.out.f49, bq HB.out.f50, bq HB.out.f51⟩
            · replace hge : 6 ≤ i := hgt
              clear hgt
              rcases Nat.lt_or_ge i 7 with hlt | hgt
              · replace hi := hlt
                clear hlt
                have he : i = 6 := Nat.le_antisymm (Nat.le_of_lt_succ hi) hge
                subst he
                have p5 := hpre 5 (by kernel_rfl)
                obtain ⟨G, hG, hGB⟩ := HB.out.f12 p5 (bit_off hun)
                subst hG
                refine step_of ⟨some 24, _, _, _, _, _⟩ rfl (fun K' hK => ?_)
                simp only [putAll, List.zip_cons_cons, List.zip_nil_right, List.foldl_cons, List.foldl_nil, List.setIfInBounds_toArray, List.set_cons_zero, List.set_cons_succ]
                go_simp
                go_at_call 10
                (with_reducible refine (K2.out _ G 1 va ra (vals_of_block hGB rfl) (HB.out.f5) HB.out.f0).mono ?_)
                rintro e W2 ⟨rfl, hq⟩
                refine hK.out _ _ ⟨_, ⟨s18, s19, s20, s21, s22, .slice (some ⟨G, 0, none⟩) 1 1, .agg #[.int .i64 1, .string (numS sa), .string (denS sa), .string { data := #[] }, .bool false, .int .i64 0, .int .i64 0, .int .i64 0, .slice none 0 0], s25, s26, s27, s28, s29, s30, s31, s32, s33, s34, s35, s36, s37, s38, s39, s40, s41, s42, s43, s44, s45, s46, s47, s48, s49, s50, s51, s52, s53, s54, s55, s56, s57, s58, s59, s60, s61, s4, rfl, ?_⟩, ?fr⟩
                case fr => simp only [putAll, List.zip_cons_cons, List.zip_nil_right, List.foldl_cons, List.foldl_nil, List.setIfInBounds_toArray, List.set_cons_zero, List.set_cons_succ]
                exact ⟨(HB.out.f0).below hq, (HB.out.f1).trans (hq.mono (HB.out.f1).size), Nat.le_trans (HB.out.f2) hq.size, keep_block (HB.out.f3) hq, keep_block (HB.out.f4) hq, (HB.out.f5).below hq, (HB.out.f6).below hq, bq HB.out.f7, bq HB.out.f8, bq3 hq HB.out.f9, bq HB.out.f10, bq HB.out.f11, fun h h2 => absurd (bit_self hun) h2, fun _ => rfl, bq HB.out.f14, bq3 hq HB.out.f15, bq HB.out.f16, bq HB.out.f17, bq HB.out.f18, bq HB.out.f19, bq HB.out.f20, bq HB.out.f21, bq3 hq HB.out.f22, bq HB.out.f23, bq HB.out.f24, bq3 hq HB.out.f25, bq HB.out.f26, bq HB.out.f27, bq3 hq HB.out.f28, bq HB.out.f29, bq HB.out.f30, bq HB.out.f31, bq HB.out.f32, bq HB.out.f33, bq HB.out.f34, bq HB.out.f35, bq3 hq HB.out.f36, bq HB.out.f37, bq HB.out.f38, bq3 hq HB.out.f39, bq HB.out.f40, bq HB.out.f41, bq HB.out.f42, bq HB.out.f43, bq HB.out.f44, bq HB.out.f45, bq3 hq HB.out.f46, bq HB.out.f47, bq HB.out.f48, bq HB.out.f49, bq HB.out.f50, bq HB.out.f51⟩
              · replace hge : 7 ≤ i := hgt
                clear hgt
                have he : i = 7 := Nat.le_antisymm (Nat.le_of_lt_succ hi) hge
                subst he
                have q9 := (nine_at HB.out.f4).1
                have cHY0 := q9.1
                have cHY1 := q9.2.1
                have cHY2 := q9.2.2.1
                have cHY3 := q9.2.2.2.1
                have cHY4 := q9.2.2.2.2.1
                have cHY5 := q9.2.2.2.2.2.1
                have cHY6 := q9.2.2.2.2.2.2.1
                have cHY7 := q9.2.2.2.2.2.2.2.1
                have cHY8 := q9.2.2.2.2.2.2.2.2
                clear q9
                refine step_of ⟨some 25, _, _, _, _, _⟩ rfl (fun K' hK => ?_)
                simp only [putAll, List.zip_cons_cons, List.zip_nil_right, List.foldl_cons, List.foldl_nil, List.setIfInBounds_toArray, List.set_cons_zero, List.set_cons_succ]
                go_simp
                refine hK.out _ _ ⟨_, ⟨s18, s19, s20, s21, s22, s23, s24, .agg #[.int .i64 vb.k, .string vb.n, .string vb.d, .string vb.t, .bool vb.on, .int .i64 vb.c, .int .i64 vb.r, .int .i64 vb.s, .slice vb.A vb.L vb.C], s26, s27, s28, s29, s30, s31, s32, s33, s34, s35, s36, s37, s38, s39, s40, s41, s42, s43, s44, s45, s46, s47, s48, s49, s50, s51, s52, s53, s54, s55, s56, s57, s58, s59, s60, s61, s4, rfl, ?_⟩, ?fr⟩
                case fr => simp only [putAll, List.zip_cons_cons, List.zip_nil_right, List.foldl_cons, List.foldl_nil, List.setIfInBounds_toArray, List.set_cons_zero, List.set_cons_succ]
                exact ⟨HB.out.f0, HB.out.f1, HB.out.f2, HB.out.f3, HB.out.f4, HB.out.f5, HB.out.f6, bq HB.out.f7, bq HB.out.f8, bq2 HB.out.f9, bq HB.out.f10, bq HB.out.f11, bq2 HB.out.f12, bq HB.out.f13, fun _ => rfl, bq2 HB.out.f15, bq HB.out.f16, bq HB.out.f17, bq HB.out.f18, bq HB.out.f19, bq HB.out.f20, bq HB.out.f21, bq2 HB.out.f22, bq HB.out.f23, bq HB.out.f24, bq2 HB.out.f25, bq HB.out.f26, bq HB.out.f27, bq2 HB.out.f28, bq HB.out.f29, bq HB.out.f30, bq HB.out.f31, bq HB.out.f32, bq HB.out.f33, bq HB.out.f34, bq HB.out.f35, bq2 HB.out.f36, bq HB.out.f37, bq HB.out.f38, bq2 HB.out.f39, bq HB.out.f40, bq HB.out.f41, bq HB.out.f42, bq HB.out.f43, bq HB.out.f44, bq HB.out.f45, bq2 HB.out.f46, bq HB.out.f47, bq HB.out.f48, bq HB.out.f49, bq HB.out.f50, bq HB.out.f51⟩
          · replace hge : 8 ≤ i := hgt
            clear hgt
            rcases Nat.lt_or_ge i 9 with hlt | hgt
            · replace hi := hlt
              clear hlt
              have he : i = 8 := Nat.le_antisymm (Nat.le_of_lt_succ hi) hge
              subst he
              have p7 := hpre 7 (by kernel_rfl)
              have e7 := HB.out.f14 p7
              subst e7
              refine step_of ⟨some 26, _, _, _, _, _⟩ rfl (fun K' hK => ?_)
              simp only [putAll, List.zip_cons_cons, List.zip_nil_right, List.foldl_cons, List.foldl_nil, List.setIfInBounds_toArray, List.set_cons_zero, List.set_cons_succ]
              go_simp
              have hq : Below W.heap.size W (W.alloc (.cells #[.int .i64 vb.k, .string vb.n, .string vb.d, .string vb.t, .bool vb.on, .int .i64 vb.c, .int .i64 vb.r, .int .i64 vb.s, .slice vb.A vb.L vb.C] 27)) := (Below.refl _ _).alloc (Nat.le_refl _) _
              refine hK.out _ _ ⟨_, ⟨s18, s19, s20, s21, s22, s23, s24, .agg #[.int .i64 vb.k, .string vb.n, .string vb.d, .string vb.t, .bool vb.on, .int .i64 vb.c, .int .i64 vb.r, .int .i64 vb.s, .slice vb.A vb.L vb.C], .slice (some ⟨W.heap.size, 0, none⟩) 1 1, s27, s28, s29, s30, s31, s32, s33, s34, s35, s36, s37, s38, s39, s40, s41, s42, s43, s44, s45, s46, s47, s48, s49, s50, s51, s52, s53, s54, s55, s56, s57, s58, s59, s60, s61, s4, rfl, ?_⟩, ?fr⟩
              case fr => simp only [putAll, List.zip_cons_cons, List.zip_nil_right, List.foldl_cons, List.foldl_nil, List.setIfInBounds_toArray, List.set_cons_zero, List.set_cons_succ]
              exact ⟨(HB.out.f0).below hq, (HB.out.f1).trans (hq.mono (HB.out.f1).size), Nat.le_trans (HB.out.f2) hq.size, keep_block (HB.out.f3) hq, keep_block (HB.out.f4) hq, (HB.out.f5).below hq, (HB.out.f6).below hq, bq HB.out.f7, bq HB.out.f8, bq3 hq HB.out.f9, bq HB.out.f10, bq HB.out.f11, bq3 hq HB.out.f12, bq HB.out.f13, bq HB.out.f14, fun _ _ => ⟨W.heap.size, rfl, heap_alloc_new W _⟩, bq HB.out.f16, bq HB.out.f17, bq HB.out.f18, bq HB.out.f19, bq HB.out.f20, bq HB.out.f21, bq3 hq HB.out.f22, bq HB.out.f23, bq HB.out.f24, bq3 hq HB.out.f25, bq HB.out.f26, bq HB.out.f27, bq3 hq HB.out.f28, bq HB.out.f29, bq HB.out.f30, bq HB.out.f31, bq HB.out.f32, bq HB.out.f33, bq HB.out.f34, bq HB.out.f35, bq3 hq HB.out.f36, bq HB.out.f37, bq HB.out.f38, bq3 hq HB.out.f39, bq HB.out.f40, bq HB.out.f41, bq HB.out.f42, bq HB.out.f43, bq HB.out.f44, bq HB.out.f45, bq3 hq HB.out.f46, bq HB.out.f47, bq HB.out.f48, bq HB.out.f49, bq HB.out.f50, bq HB.out.f51⟩
            · replace hge : 9 ≤ i := hgt
              clear hgt
              rcases Nat.lt_or_ge i 10 with hlt | hgt
              · replace hi := hlt
                clear hlt
                have he : i = 9 := Nat.le_antisymm (Nat.le_of_lt_succ hi) hge
                subst he
                have p8 := hpre 8 (by kernel_rfl)
                obtain ⟨G, hG, hGB⟩ := HB.out.f15 p8 (bit_off hun)
                subst hG
                refine step_of ⟨some 27, _, _, _, _, _⟩ rfl (fun K' hK => ?_)
                simp only [putAll, List.zip_cons_cons, List.zip_nil_right, List.foldl_cons, List.foldl_nil, List.setIfInBounds_toArray, List.set_cons_zero, List.set_cons_succ]
                go_simp
                go_at_call 10
                (with_reducible refine (K3.out _ G 1 vb rb (vals_of_block hGB rfl) (HB.out.f6) HB.out.f0).mono ?_)
                rintro e W2 ⟨rfl, hq⟩
                refine hK.out _ _ ⟨_, ⟨s18, s19, s20, s21, s22, s23, s24, s25, .slice (some ⟨G, 0, none⟩) 1 1, .agg #[.int .i64 1, .string (numS sb), .string (denS sb), .string { data := #[] }, .bool false, .int .i64 0, .int .i64 0, .int .i64 0, .slice none 0 0], s28, s29, s30, s31, s32, s33, s34, s35, s36, s37, s38, s39, s40, s41, s42, s43, s44, s45, s46, s47, s48, s49, s50, s51, s52, s53, s54, s55, s56, s57, s58, s59, s60, s61, s4, rfl, ?_⟩, ?fr⟩
                case fr => simp only [putAll, List.zip_cons_cons, List.zip_nil_right, List.foldl_cons, List.foldl_nil, List.setIfInBounds_toArray, List.set_cons_zero, List.set_cons_succ]
                exact ⟨(HB.out.f0).below hq, (HB.out.f1).trans (hq.mono (HB.out.f1).size), Nat.le_trans (HB.out.f2) hq.size, keep_block (HB.out.f3) hq, keep_block (HB.out.f4) hq, (HB.out.f5).below hq, (HB.out.f6).below hq, bq HB.out.f7, bq HB.out.f8, bq3 hq HB.out.f9, bq HB.out.f10, bq HB.out.f11, bq3 hq HB.out.f12, bq HB.out.f13, bq HB.out.f14, fun h h2 => absurd (bit_self hun) h2, fun _ => rfl, bq HB.out.f17, bq HB.out.f18, bq HB.out.f19, bq HB.out.f20, bq HB.out.f21, bq3 hq HB.out.f22, bq HB.out.f23, bq HB.out.f24, bq3 hq HB.out.f25, bq HB.out.f26, bq HB.out.f27, bq3 hq HB.out.f28, bq HB.out.f29, bq HB.out.f30, bq HB.out.f31, bq HB.out.f32, bq HB.out.f33, bq HB.out.f34, bq HB.out.f35, bq3 hq HB.out.f36, bq HB.out.f37, bq HB.out.f38, bq3 hq HB.out.f39, bq HB.out.f40, bq HB.out.f41, bq HB.out.f42, bq HB.out.f43, bq HB.out.f44, bq HB.out.f45, bq3 hq HB.out.f46, bq HB.out.f47, bq HB.out.f48, bq HB.out.f49, bq HB.out.f50, bq HB.out.f51⟩
              · replace hge : 10 ≤ i := hgt
                clear hgt
                have he : i = 10 := Nat.le_antisymm (Nat.le_of_lt_succ hi) hge
                subst he
                have p6 := hpre 6 (by kernel_rfl)
                have e6 := HB.out.f13 p6
                subst e6
                have p9 := hpre 9 (by kernel_rfl)
                have e9 := HB.out.f16 p9
                subst e9
                refine step_of ⟨some 28, _, _, _, _, _⟩ rfl (fun K' hK => ?_)
                simp only [putAll, List.zip_cons_cons, List.zip_nil_right, List.foldl_cons, List.foldl_nil, List.setIfInBounds_toArray, List.set_cons_zero, List.set_cons_succ]
                go_simp
                go_at_call 13
                (with_reducible refine (TP.out _ HB.out.f0).mono ?_)
                rintro e W2 ⟨rfl, hq⟩
                refine hK.out _ _ ⟨_, ⟨s18, s19, s20, s21, s22, s23, .agg #[.int .i64 1, .string (numS sa), .string (denS sa), .string { data := #[] }, .bool false, .int .i64 0, .int .i64 0, .int .i64 0, .slice none 0 0], s25, s26, .agg #[.int .i64 1, .string (numS sb), .string (denS sb), .string { data := #[] }, .bool false, .int .i64 0, .int .i64 0, .int .i64 0, .slice none 0 0], .agg #[.int .i64 1, .string (numS sab), .string (denS sab), .string { data := #[] }, .bool false, .int .i64 0, .int .i64 0, .int .i64 0, .slice none 0 0], s29, s30, s31, s32, s33, s34, s35, s36, s37, s38, s39, s40, s41, s42, s43, s44, s45, s46, s47, s48, s49, s50, s51, s52, s53, s54, s55, s56, s57, s58, s59, s60, s61, s4, rfl, ?_⟩, ?fr⟩
                case fr => simp only [putAll, List.zip_cons_cons, List.zip_nil_right, List.foldl_cons, List.foldl_nil, List.setIfInBounds_toArray, List.set_cons_zero, List.set_cons_succ]
                exact ⟨(HB.out.f0).below hq, (HB.out.f1).trans (hq.mono (HB.out.f1).size), Nat.le_trans (HB.out.f2) hq.size, keep_block (HB.out.f3) hq, keep_block (HB.out.f4) hq, (HB.out.f5).below hq, (HB.out.f6).below hq, bq HB.out.f7, bq HB.out.f8, bq3 hq HB.out.f9, bq HB.out.f10, bq HB.out.f11, bq3 hq HB.out.f12, bq HB.out.f13, bq HB.out.f14, bq3 hq HB.out.f15, bq HB.out.f16, fun _ => rfl, bq HB.out.f18, bq HB.out.f19, bq HB.out.f20, bq HB.out.f21, bq3 hq HB.out.f22, bq HB.out.f23, bq HB.out.f24, bq3 hq HB.out.f25, bq HB.out.f26, bq HB.out.f27, bq3 hq HB.out.f28, bq HB.out.f29, bq HB.out.f30, bq HB.out.f31, bq HB.out.f32, bq HB.out.f33, bq HB.out.f34, bq HB.out.f35, bq3 hq HB.out.f36, bq HB.out.f37, bq HB.out.f38, bq3 hq HB.out.f39, bq HB.out.f40, bq HB.out.f41, bq HB.out.f42, bq HB.out.f43, bq HB.out.f44, bq HB.out.f45, bq3 hq HB.out.f46, bq HB.out.f47, bq HB.out.f48, bq HB.out.f49, bq HB.out.f50, bq HB.out.f51⟩
      · replace hge : 11 ≤ i := hgt
        clear hgt
        rcases Nat.lt_or_ge i 16 with hlt | hgt
        · replace hi := hlt
          clear hlt
          rcases Nat.lt_or_ge i 13 with hlt | hgt
          · replace hi := hlt
            clear hlt
            rcases Nat.lt_or_ge i 12 with hlt | hgt
            · replace hi := hlt
              clear hlt
              have he : i = 11 := Nat.le_antisymm (Nat.le_of_lt_succ hi) hge
              subst he
              have p3 := hpre 3 (by kernel_rfl)
              have e3 := HB.out.f10 p3
              subst e3
              have p10 := hpre 10 (by kernel_rfl)
              have e10 := HB.out.f17 p10
              subst e10
              refine step_of ⟨some 29, _, _, _, _, _⟩ rfl (fun K' hK => ?_)
              simp only [putAll, List.zip_cons_cons, List.zip_nil_right, List.foldl_cons, List.foldl_nil, List.setIfInBounds_toArray, List.set_cons_zero, List.set_cons_succ]
              go_simp
              go_at_call 12
              (with_reducible refine (same_self sab _).mono ?_)
              rintro e W2 ⟨rfl, hq⟩
              refine hK.out _ _ ⟨_, ⟨s18, s19, s20, .agg #[.int .i64 1, .string (numS sab), .string (denS sab), .string { data := #[] }, .bool false, .int .i64 0, .int .i64 0, .int .i64 0, .slice none 0 0], s22, s23, s24, s25, s26, s27, .agg #[.int .i64 1, .string (numS sab), .string (denS sab), .string { data := #[] }, .bool false, .int .i64 0, .int .i64 0, .int .i64 0, .slice none 0 0], .bool true, s30, s31, s32, s33, s34, s35, s36, s37, s38, s39, s40, s41, s42, s43, s44, s45, s46, s47, s48, s49, s50, s51, s52, s53, s54, s55, s56, s57, s58, s59, s60, s61, s4, rfl, ?_⟩, ?fr⟩
              case fr => simp only [putAll, List.zip_cons_cons, List.zip_nil_right, List.foldl_cons, List.foldl_nil, List.setIfInBounds_toArray, List.set_cons_zero, List.set_cons_succ]
              exact ⟨(HB.out.f0).below hq, (HB.out.f1).trans (hq.mono (HB.out.f1).size), Nat.le_trans (HB.out.f2) hq.size, keep_block (HB.out.f3) hq, keep_block (HB.out.f4) hq, (HB.out.f5).below hq, (HB.out.f6).below hq, bq HB.out.f7, bq HB.out.f8, bq3 hq HB.out.f9, bq HB.out.f10, bq HB.out.f11, bq3 hq HB.out.f12, bq HB.out.f13, bq HB.out.f14, bq3 hq HB.out.f15, bq HB.out.f16, bq HB.out.f17, fun _ => rfl, bq HB.out.f19, bq HB.out.f20, bq HB.out.f21, bq3 hq HB.out.f22, bq HB.out.f23, bq HB.out.f24, bq3 hq HB.out.f25, bq HB.out.f26, bq HB.out.f27, bq3 hq HB.out.f28, bq HB.out.f29, bq HB.out.f30, bq HB.out.f31, bq HB.out.f32, bq HB.out.f33, bq HB.out.f34, bq HB.out.f35, bq3 hq HB.out.f36, bq HB.out.f37, bq HB.out.f38, bq3 hq HB.out.f39, bq HB.out.f40, bq HB.out.f41, bq HB.out.f42, bq HB.out.f43, bq HB.out.f44, bq HB.out.f45, bq3 hq HB.out.f46, bq HB.out.f47, bq HB.out.f48, bq HB.out.f49, bq HB.out.f50, bq HB.out.f51⟩
            · replace hge : 12 ≤ i := hgt
              clear hgt
              have he : i = 12 := Nat.le_antisymm (Nat.le_of_lt_succ hi) hge
              subst he
              have p11 := hpre 11 (by kernel_rfl)
              have e11 := HB.out.f18 p11
              subst e11
              refine step_of ⟨some 30, _, _, _, _, _⟩ rfl (fun K' hK => ?_)
              simp only [putAll, List.zip_cons_cons, List.zip_nil_right, List.foldl_cons, List.foldl_nil, List.setIfInBounds_toArray, List.set_cons_zero, List.set_cons_succ]
              go_simp
              refine hK.out _ _ ⟨_, ⟨s18, s19, s20, s21, s22, s23, s24, s25, s26, s27, s28, .bool true, .bool true, s31, s32, s33, s34, s35, s36, s37, s38, s39, s40, s41, s42, s43, s44, s45, s46, s47, s48, s49, s50, s51, s52, s53, s54, s55, s56, s57, s58, s59, s60, s61, s4, rfl, ?_⟩, ?fr⟩
              case fr => simp only [putAll, List.zip_cons_cons, List.zip_nil_right, List.foldl_cons, List.foldl_nil, List.setIfInBounds_toArray, List.set_cons_zero, List.set_cons_succ]
              exact ⟨HB.out.f0, HB.out.f1, HB.out.f2, HB.out.f3, HB.out.f4, HB.out.f5, HB.out.f6, bq HB.out.f7, bq HB.out.f8, bq2 HB.out.f9, bq HB.out.f10, bq HB.out.f11, bq2 HB.out.f12, bq HB.out.f13, bq HB.out.f14, bq2 HB.out.f15, bq HB.out.f16, bq HB.out.f17, bq HB.out.f18, fun _ => rfl, bq HB.out.f20, bq HB.out.f21, bq2 HB.out.f22, bq HB.out.f23, bq HB.out.f24, bq2 HB.out.f25, bq HB.out.f26, bq HB.out.f27, bq2 HB.out.f28, bq HB.out.f29, bq HB.out.f30, bq HB.out.f31, bq HB.out.f32, bq HB.out.f33, bq HB.out.f34, bq HB.out.f35, bq2 HB.out.f36, bq HB.out.f37, bq HB.out.f38, bq2 HB.out.f39, bq HB.out.f40, bq HB.out.f41, bq HB.out.f42, bq HB.out.f43, bq HB.out.f44, bq HB.out.f45, bq2 HB.out.f46, bq HB.out.f47, bq HB.out.f48, bq HB.out.f49, bq HB.out.f50, bq HB.out.f51⟩
          · replace hge : 13 ≤ i := hgt
            clear hgt
            rcases Nat.lt_or_ge i 14 with hlt | hgt
            · replace hi := hlt
              clear hlt
              have he : i = 13 := Nat.le_antisymm (Nat.le_of_lt_succ hi) hge
              subst he
              have p12 := hpre 12 (by kernel_rfl)
              have e12 := HB.out.f19 p12
              subst e12
              have q9 := (nine_at HB.out.f3).1
              have cHX0 := q9.1
              have cHX1 := q9.2.1
              have cHX2 := q9.2.2.1
              have cHX3 := q9.2.2.2.1
              have cHX4 := q9.2.2.2.2.1
              have cHX5 := q9.2.2.2.2.2.1
              have cHX6 := q9.2.2.2.2.2.2.1
              have cHX7 := q9.2.2.2.2.2.2.2.1
              have cHX8 := q9.2.2.2.2.2.2.2.2
              clear q9
              refine step_of ⟨some 31, _, _, _, _, _⟩ rfl (fun K' hK => ?_)
              simp only [putAll, List.zip_cons_cons, List.zip_nil_right, List.foldl_cons, List.foldl_nil, List.setIfInBounds_toArray, List.set_cons_zero, List.set_cons_succ]
              rw [if_pos (by rfl)]
              go_simp
              refine hK.out _ _ ⟨_, ⟨s18, s19, s20, s21, s22, s23, s24, s25, s26, s27, s28, s29, .bool true, .agg #[.int .i64 va.k, .string va.n, .string va.d, .string va.t, .bool va.on, .int .i64 va.c, .int .i64 va.r, .int .i64 va.s, .slice va.A va.L va.C], s32, s33, s34, s35, s36, s37, s38, s39, s40, s41, s42, s43, s44, s45, s46, s47, s48, s49, s50, s51, s52, s53, s54, s55, s56, s57, s58, s59, s60, s61, s4, rfl, ?_⟩, ?fr⟩
              case fr => simp only [putAll, List.zip_cons_cons, List.zip_nil_right, List.foldl_cons, List.foldl_nil, List.setIfInBounds_toArray, List.set_cons_zero, List.set_cons_succ]
              exact ⟨HB.out.f0, HB.out.f1, HB.out.f2, HB.out.f3, HB.out.f4, HB.out.f5, HB.out.f6, bq HB.out.f7, bq HB.out.f8, bq2 HB.out.f9, bq HB.out.f10, bq HB.out.f11, bq2 HB.out.f12, bq HB.out.f13, bq HB.out.f14, bq2 HB.out.f15, bq HB.out.f16, bq HB.out.f17, bq HB.out.f18, bq HB.out.f19, fun _ => rfl, bq HB.out.f21, bq2 HB.out.f22, bq HB.out.f23, bq HB.out.f24, bq2 HB.out.f25, bq HB.out.f26, bq HB.out.f27, bq2 HB.out.f28, bq HB.out.f29, bq HB.out.f30, bq HB.out.f31, bq HB.out.f32, bq HB.out.f33, bq HB.out.f34, bq HB.out.f35, bq2 HB.out.f36, bq HB.out.f37, bq HB.out.f38, bq2 HB.out.f39, bq HB.out.f40, bq HB.out.f41, bq HB.out.f42, bq HB.out.f43, bq HB.out.f44, bq HB.out.f45, bq2 HB.out.f46, bq HB.out.f47, bq HB.out.f48, bq HB.out.f49, bq HB.out.f50, bq HB.out.f51⟩
            · replace hge : 14 ≤ i := hgt
              clear hgt
              rcases Nat.lt_or_ge i 15 with hlt | hgt
              · replace hi := hlt
                clear hlt
                have he : i = 14 := Nat.le_antisymm (Nat.le_of_lt_succ hi) hge
                subst he
                have p12 := hpre 12 (by kernel_rfl)
                have e12 := HB.out.f19 p12
                subst e12
                have q9 := (nine_at HB.out.f4).1
                have cHY0 := q9.1
                have cHY1 := q9.2.1
                have cHY2 := q9.2.2.1
                have cHY3 := q9.2.2.2.1
                have cHY4 := q9.2.2.2.2.1
                have cHY5 := q9.2.2.2.2.2.1
                have cHY6 := q9.2.2.2.2.2.2.1
                have cHY7 := q9.2.2.2.2.2.2.2.1
                have cHY8 := q9.2.2.2.2.2.2.2.2
                clear q9
                refine step_of ⟨some 32, _, _, _, _, _⟩ rfl (fun K' hK => ?_)
                simp only [putAll, List.zip_cons_cons, List.zip_nil_right, List.foldl_cons, List.foldl_nil, List.setIfInBounds_toArray, List.set_cons_zero, List.set_cons_succ]
                rw [if_pos (by rfl)]
                go_simp
                refine hK.out _ _ ⟨_, ⟨s18, s19, s20, s21, s22, s23, s24, s25, s26, s27, s28, s29, .bool true, s31, .agg #[.int .i64 vb.k, .string vb.n, .string vb.d, .string vb.t, .bool vb.on, .int .i64 vb.c, .int .i64 vb.r, .int .i64 vb.s, .slice vb.A vb.L vb.C], s33, s34, s35, s36, s37, s38, s39, s40, s41, s42, s43, s44, s45, s46, s47, s48, s49, s50, s51, s52, s53, s54, s55, s56, s57, s58, s59, s60, s61, s4, rfl, ?_⟩, ?fr⟩
                case fr => simp only [putAll, List.zip_cons_cons, List.zip_nil_right, List.foldl_cons, List.foldl_nil, List.setIfInBounds_toArray, List.set_cons_zero, List.set_cons_succ]
                exact ⟨HB.out.f0, HB.out.f1, HB.out.f2, HB.out.f3, HB.out.f4, HB.out.f5, HB.out.f6, bq HB.out.f7, bq HB.out.f8, bq2 HB.out.f9, bq HB.out.f10, bq HB.out.f11, bq2 HB.out.f12, bq HB.out.f13, bq HB.out.f14, bq2 HB.out.f15, bq HB.out.f16, bq HB.out.f17, bq HB.out.f18, bq HB.out.f19, bq HB.out.f20, fun _ => rfl, bq2 HB.out.f22, bq HB.out.f23, bq HB.out.f24, bq2 HB.out.f25, bq HB.out.f26, bq HB.out.f27, bq2 HB.out.f28, bq HB.out.f29, bq HB.out.f30, bq HB.out.f31, bq HB.out.f32, bq HB.out.f33, bq HB.out.f34, bq HB.out.f35, bq2 HB.out.f36, bq HB.out.f37, bq HB.out.f38, bq2 HB.out.f39, bq HB.out.f40, bq HB.out.f41, bq HB.out.f42, bq HB.out.f43, bq HB.out.f44, bq HB.out.f45, bq2 HB.out.f46, bq HB.out.f47, bq HB.out.f48, bq HB.out.f49, bq HB.out.f50, bq HB.out.f51⟩
              · replace hge : 15 ≤ i := hgt
                clear hgt
                have he : i = 15 := Nat.le_antisymm (Nat.le_of_lt_succ hi) hge
                subst he
                have p13 := hpre 13 (by kernel_rfl)
                have e13 := HB.out.f20 p13
                subst e13
                have p14 := hpre 14 (by kernel_rfl)
                have e14 := HB.out.f21 p14
                subst e14
                have p12 := hpre 12 (by kernel_rfl)
                have e12 := HB.out.f19 p12
                subst e12
                refine step_of ⟨some 33, _, _, _, _, _⟩ rfl (fun K' hK => ?_)
                simp only [putAll, List.zip_cons_cons, List.zip_nil_right, List.foldl_cons, List.foldl_nil, List.setIfInBounds_toArray, List.set_cons_zero, List.set_cons_succ]
                rw [if_pos (by rfl)]
                go_simp
                have hq : Below W.heap.size W (W.alloc (.cells #[.int .i64 va.k, .string va.n, .string va.d, .string va.t, .bool va.on, .int .i64 va.c, .int .i64 va.r, .int .i64 va.s, .slice va.A va.L va.C, .int .i64 vb.k, .string vb.n, .string vb.d, .string vb.t, .bool vb.on, .int .i64 vb.c, .int .i64 vb.r, .int .i64 vb.s, .slice vb.A vb.L vb.C] 27)) := (Below.refl _ _).alloc (Nat.le_refl _) _
                refine hK.out _ _ ⟨_, ⟨s18, s19, s20, s21, s22, s23, s24, s25, s26, s27, s28, s29, .bool true, .agg #[.int .i64 va.k, .string va.n, .string va.d, .string va.t, .bool va.on, .int .i64 va.c, .int .i64 va.r, .int .i64 va.s, .slice va.A va.L va.C], .agg #[.int .i64 vb.k, .string vb.n, .string vb.d, .string vb.t, .bool vb.on, .int .i64 vb.c, .int .i64 vb.r, .int .i64 vb.s, .slice vb.A vb.L vb.C], .slice (some ⟨W.heap.size, 0, none⟩) 2 2, s34, s35, s36, s37, s38, s39, s40, s41, s42, s43, s44, s45, s46, s47, s48, s49, s50, s51, s52, s53, s54, s55, s56, s57, s58, s59, s60, s61, s4, rfl, ?_⟩, ?fr⟩
                case fr => simp only [putAll, List.zip_cons_cons, List.zip_nil_right, List.foldl_cons, List.foldl_nil, List.setIfInBounds_toArray, List.set_cons_zero, List.set_cons_succ]
                exact ⟨(HB.out.f0).below hq, (HB.out.f1).trans (hq.mono (HB.out.f1).size), Nat.le_trans (HB.out.f2) hq.size, keep_block (HB.out.f3) hq, keep_block (HB.out.f4) hq, (HB.out.f5).below hq, (HB.out.f6).below hq, bq HB.out.f7, bq HB.out.f8, bq3 hq HB.out.f9, bq HB.out.f10, bq HB.out.f11, bq3 hq HB.out.f12, bq HB.out.f13, bq HB.out.f14, bq3 hq HB.out.f15, bq HB.out.f16, bq HB.out.f17, bq HB.out.f18, bq HB.out.f19, bq HB.out.f20, bq HB.out.f21, fun _ _ => ⟨W.heap.size, rfl, heap_alloc_new W _⟩, bq HB.out.f23, bq HB.out.f24, bq3 hq HB.out.f25, bq HB.out.f26, bq HB.out.f27, bq3 hq HB.out.f28, bq HB.out.f29, bq HB.out.f30, bq HB.out.f31, bq HB.out.f32, bq HB.out.f33, bq HB.out.f34, bq HB.out.f35, bq3 hq HB.out.f36, bq HB.out.f37, bq HB.out.f38, bq3 hq HB.out.f39, bq HB.out.f40, bq HB.out.f41, bq HB.out.f42, bq HB.out.f43, bq HB.out.f44, bq HB.out.f45, bq3 hq HB.out.f46, bq HB.out.f47, bq HB.out.f48, bq HB.out.f49, bq HB.out.f50, bq HB.out.f51⟩
        · replace hge : 16 ≤ i := hgt
          clear hgt
          rcases Nat.lt_or_ge i 19 with hlt | hgt
          · replace hi := hlt
            clear hlt
            rcases Nat.lt_or_ge i 17 with hlt | hgt
            · replace hi := hlt
              clear hlt
              have he : i = 16 := Nat.le_antisymm (Nat.le_of_lt_succ hi) hge
              subst he
              have p15 := hpre 15 (by kernel_rfl)
              obtain ⟨G, hG, hGB⟩ := HB.out.f22 p15 (bit_off hun)
              subst hG
              have p12 := hpre 12 (by kernel_rfl)
              have e12 := HB.out.f19 p12
              subst e12
              refine step_of ⟨some 34, _, _, _, _, _⟩ rfl (fun K' hK => ?_)
              simp only [putAll, List.zip_cons_cons, List.zip_nil_right, List.foldl_cons, List.foldl_nil, List.setIfInBounds_toArray, List.set_cons_zero, List.set_cons_succ]
              rw [if_pos (by rfl)]
              go_simp
              go_at_call 10
              (with_reducible refine (K4.out _ G 2 va vb ra rb (vals_of_block hGB rfl) (HB.out.f5) (HB.out.f6) HB.out.f0).mono ?_)
              rintro e W2 ⟨rfl, hq⟩
              refine hK.out _ _ ⟨_, ⟨s18, s19, s20, s21, s22, s23, s24, s25, s26, s27, s28, s29, .bool true, s31, s32, .slice (some ⟨G, 0, none⟩) 2 2, .agg #[.int .i64 1, .string (numS tab), .string (denS tab), .string { data := #[] }, .bool false, .int .i64 0, .int .i64 0, .int .i64 0, .slice none 0 0], s35, s36, s37, s38, s39, s40, s41, s42, s43, s44, s45, s46, s47, s48, s49, s50, s51, s52, s53, s54, s55, s56, s57, s58, s59, s60, s61, s4, rfl, ?_⟩, ?fr⟩
              case fr => simp only [putAll, List.zip_cons_cons, List.zip_nil_right, List.foldl_cons, List.foldl_nil, List.setIfInBounds_toArray, List.set_cons_zero, List.set_cons_succ]
              exact ⟨(HB.out.f0).below hq, (HB.out.f1).trans (hq.mono (HB.out.f1).size), Nat.le_trans (HB.out.f2) hq.size, keep_block (HB.out.f3) hq, keep_block (HB.out.f4) hq, (HB.out.f5).below hq, (HB.out.f6).below hq, bq HB.out.f7, bq HB.out.f8, bq3 hq HB.out.f9, bq HB.out.f10, bq HB.out.f11, bq3 hq HB.out.f12, bq HB.out.f13, bq HB.out.f14, bq3 hq HB.out.f15, bq HB.out.f16, bq HB.out.f17, bq HB.out.f18, bq HB.out.f19, bq HB.out.f20, bq HB.out.f21, fun h h2 => absurd (bit_self hun) h2, fun _ => rfl, bq HB.out.f24, bq3 hq HB.out.f25, bq HB.out.f26, bq HB.out.f27, bq3 hq HB.out.f28, bq HB.out.f29, bq HB.out.f30, bq HB.out.f31, bq HB.out.f32, bq HB.out.f33, bq HB.out.f34, bq HB.out.f35, bq3 hq HB.out.f36, bq HB.out.f37, bq HB.out.f38, bq3 hq HB.out.f39, bq HB.out.f40, bq HB.out.f41, bq HB.out.f42, bq HB.out.f43, bq HB.out.f44, bq HB.out.f45, bq3 hq HB.out.f46, bq HB.out.f47, bq HB.out.f48, bq HB.out.f49, bq HB.out.f50, bq HB.out.f51⟩
            · replace hge : 17 ≤ i := hgt
              clear hgt
              rcases Nat.lt_or_ge i 18 with hlt | hgt
              · replace hi := hlt
                clear hlt
                have he : i = 17 := Nat.le_antisymm (Nat.le_of_lt_succ hi) hge
                subst he
                have p12 := hpre 12 (by kernel_rfl)
                have e12 := HB.out.f19 p12
                subst e12
                have q9 := (nine_at HB.out.f3).1
                have cHX0 := q9.1
                have cHX1 := q9.2.1
                have cHX2 := q9.2.2.1
                have cHX3 := q9.2.2.2.1
                have cHX4 := q9.2.2.2.2.1
                have cHX5 := q9.2.2.2.2.2.1
                have cHX6 := q9.2.2.2.2.2.2.1
                have cHX7 := q9.2.2.2.2.2.2.2.1
                have cHX8 := q9.2.2.2.2.2.2.2.2
                clear q9
                refine step_of ⟨some 35, _, _, _, _, _⟩ rfl (fun K' hK => ?_)
                simp only [putAll, List.zip_cons_cons, List.zip_nil_right, List.foldl_cons, List.foldl_nil, List.setIfInBounds_toArray, List.set_cons_zero, List.set_cons_succ]
                rw [if_pos (by rfl)]
                go_simp
                refine hK.out _ _ ⟨_, ⟨s18, s19, s20, s21, s22, s23, s24, s25, s26, s27, s28, s29, .bool true, s31, s32, s33, s34, .agg #[.int .i64 va.k, .string va.n, .string va.d, .string va.t, .bool va.on, .int .i64 va.c, .int .i64 va.r, .int .i64 va.s, .slice va.A va.L va.C], s36, s37, s38, s39, s40, s41, s42, s43, s44, s45, s46, s47, s48, s49, s50, s51, s52, s53, s54, s55, s56, s57, s58, s59, s60, s61, s4, rfl, ?_⟩, ?fr⟩
                case fr => simp only [putAll, List.zip_cons_cons, List.zip_nil_right, List.foldl_cons, List.foldl_nil, List.setIfInBounds_toArray, List.set_cons_zero, List.set_cons_succ]
                exact ⟨HB.out.f0, HB.out.f1, HB.out.f2, HB.out.f3, HB.out.f4, HB.out.f5, HB.out.f6, bq HB.out.f7, bq HB.out.f8, bq2 HB.out.f9, bq HB.out.f10, bq HB.out.f11, bq2 HB.out.f12, bq HB.out.f13, bq HB.out.f14, bq2 HB.out.f15, bq HB.out.f16, bq HB.out.f17, bq HB.out.f18, bq HB.out.f19, bq HB.out.f20, bq HB.out.f21, bq2 HB.out.f22, bq HB.out.f23, fun _ => rfl, bq2 HB.out.f25, bq HB.out.f26, bq HB.out.f27, bq2 HB.out.f28, bq HB.out.f29, bq HB.out.f30, bq HB.out.f31, bq HB.out.f32, bq HB.out.f33, bq HB.out.f34, bq HB.out.f35, bq2 HB.out.f36, bq HB.out.f37, bq HB.out.f38, bq2 HB.out.f39, bq HB.out.f40, bq HB.out.f41, bq HB.out.f42, bq HB.out.f43, bq HB.out.f44, bq HB.out.f45, bq2 HB.out.f46, bq HB.out.f47, bq HB.out.f48, bq HB.out.f49, bq HB.out.f50, bq HB.out.f51⟩
              · replace hge : 18 ≤ i := hgt
                clear hgt
                have he : i = 18 := Nat.le_antisymm (Nat.le_of_lt_succ hi) hge
                subst he
                have p17 := hpre 17 (by kernel_rfl)
                have e17 := HB.out.f24 p17
                subst e17
                have p12 := hpre 12 (by kernel_rfl)
                have e12 := HB.out.f19 p12
                subst e12
                refine step_of ⟨some 36, _, _, _, _, _⟩ rfl (fun K' hK => ?_)
                simp only [putAll, List.zip_cons_cons, List.zip_nil_right, List.foldl_cons, List.foldl_nil, List.setIfInBounds_toArray, List.set_cons_zero, List.set_cons_succ]
                rw [if_pos (by rfl)]
                go_simp
                have hq : Below W.heap.size W (W.alloc (.cells #[.int .i64 va.k, .string va.n, .string va.d, .string va.t, .bool va.on, .int .i64 va.c, .int .i64 va.r, .int .i64 va.s, .slice va.A va.L va.C] 27)) := (Below.refl _ _).alloc (Nat.le_refl _) _
                refine hK.out _ _ ⟨_, ⟨s18, s19, s20, s21, s22, s23, s24, s25, s26, s27, s28, s29, .bool true, s31, s32, s33, s34, .agg #[.int .i64 va.k, .string va.n, .string va.d, .string va.t, .bool va.on, .int .i64 va.c, .int .i64 va.r, .int .i64 va.s, .slice va.A va.L va.C], .slice (some ⟨W.heap.size, 0, none⟩) 1 1, s37, s38, s39, s40, s41, s42, s43, s44, s45, s46, s47, s48, s49, s50, s51, s52, s53, s54, s55, s56, s57, s58, s59, s60, s61, s4, rfl, ?_⟩, ?fr⟩
                case fr => simp only [putAll, List.zip_cons_cons, List.zip_nil_right, List.foldl_cons, List.foldl_nil, List.setIfInBounds_toArray, List.set_cons_zero, List.set_cons_succ]
                exact ⟨(HB.out.f0).below hq, (HB.out.f1).trans (hq.mono (HB.out.f1).size), Nat.le_trans (HB.out.f2) hq.size, keep_block (HB.out.f3) hq, keep_block (HB.out.f4) hq, (HB.out.f5).below hq, (HB.out.f6).below hq, bq HB.out.f7, bq HB.out.f8, bq3 hq HB.out.f9, bq HB.out.f10, bq HB.out.f11, bq3 hq HB.out.f12, bq HB.out.f13, bq HB.out.f14, bq3 hq HB.out.f15, bq HB.out.f16, bq HB.out.f17, bq HB.out.f18, bq HB.out.f19, bq HB.out.f20, bq HB.out.f21, bq3 hq HB.out.f22, bq HB.out.f23, bq HB.out.f24, fun _ _ => ⟨W.heap.size, rfl, heap_alloc_new W _⟩, bq HB.out.f26, bq HB.out.f27, bq3 hq HB.out.f28, bq HB.out.f29, bq HB.out.f30, bq HB.out.f31, bq HB.out.f32, bq HB.out.f33, bq HB.out.f34, bq HB.out.f35, bq3 hq HB.out.f36, bq HB.out.f37, bq HB.out.f38, bq3 hq HB.out.f39, bq HB.out.f40, bq HB.out.f41, bq HB.out.f42, bq HB.out.f43, bq HB.out.f44, bq HB.out.f45, bq3 hq HB.out.f46, bq HB.out.f47, bq HB.out.f48, bq HB.out.f49, bq HB.out.f50, bq HB.out.f51⟩
          · replace hge : 19 ≤ i := hgt
            clear hgt
            rcases Nat.lt_or_ge i 20 with hlt | hgt
            · replace hi := hlt
              clear hlt
              have he : i = 19 := Nat.le_antisymm (Nat.le_of_lt_succ hi) hge
              subst he
              have p18 := hpre 18 (by kernel_rfl)
              obtain ⟨G, hG, hGB⟩ := HB.out.f25 p18 (bit_off hun)
              subst hG
              have p12 := hpre 12 (by kernel_rfl)
              have e12 := HB.out.f19 p12
              subst e12
              refine step_of ⟨some 37, _, _, _, _, _⟩ rfl (fun K' hK => ?_)
              simp only [putAll, List.zip_cons_cons, List.zip_nil_right, List.foldl_cons, List.foldl_nil, List.setIfInBounds_toArray, List.set_cons_zero, List.set_cons_succ]
              rw [if_pos (by rfl)]
              go_simp
              go_at_call 10
              (with_reducible refine (K5.out _ G 1 va ra (vals_of_block hGB rfl) (HB.out.f5) HB.out.f0).mono ?_)
              rintro e W2 ⟨rfl, hq⟩
              refine hK.out _ _ ⟨_, ⟨s18, s19, s20, s21, s22, s23, s24, s25, s26, s27, s28, s29, .bool true, s31, s32, s33, s34, s35, .slice (some ⟨G, 0, none⟩) 1 1, .agg #[.int .i64 1, .string (numS ta), .string (denS ta), .string { data := #[] }, .bool false, .int .i64 0, .int .i64 0, .int .i64 0, .slice none 0 0], s38, s39, s40, s41, s42, s43, s44, s45, s46, s47, s48, s49, s50, s51, s52, s53, s54, s55, s56, s57, s58, s59, s60, s61, s4, rfl, ?_⟩, ?fr⟩
              case fr => simp only [putAll, List.zip_cons_cons, List.zip_nil_right, List.foldl_cons, List.foldl_nil, List.setIfInBounds_toArray, List.set_cons_zero, List.set_cons_succ]
              exact ⟨(HB.out.f0).below hq, (HB.out.f1).trans (hq.mono (HB.out.f1).size), Nat.le_trans (HB.out.f2) hq.size, keep_block (HB.out.f3) hq, keep_block (HB.out.f4) hq, (HB.out.f5).below hq, (HB.out.f6).below hq, bq HB.out.f7, bq HB.out.f8, bq3 hq HB.out.f9, bq HB.out.f10, bq HB.out.f11, bq3 hq HB.out.f12, bq HB.out.f13, bq HB.out.f14, bq3 hq HB.out.f15, bq HB.out.f16, bq HB.out.f17, bq HB.out.f18, bq HB.out.f19, bq HB.out.f20, bq HB.out.f21, bq3 hq HB.out.f22, bq HB.out.f23, bq HB.out.f24, fun h h2 => absurd (bit_self hun) h2, fun _ => rfl, bq HB.out.f27, bq3 hq HB.out.f28, bq HB.out.f29, bq HB.out.f30, bq HB.out.f31, bq HB.out.f32, bq HB.out.f33, bq HB.out.f34, bq HB.out.f35, bq3 hq HB.out.f36, bq HB.out.f37, bq HB.out.f38, bq3 hq HB.out.f39, bq HB.out.f40, bq HB.out.f41, bq HB.out.f42, bq HB.out.f43, bq HB.out.f44, bq HB.out.f45, bq3 hq HB.out.f46, bq HB.out.f47, bq HB.out.f48, bq HB.out.f49, bq HB.out.f50, bq HB.out.f51⟩
            · replace hge : 20 ≤ i := hgt
              clear hgt
              rcases Nat.lt_or_ge i 21 with hlt | hgt
              · replace hi := hlt
                clear hlt
                have he : i = 20 := Nat.le_antisymm (Nat.le_of_lt_succ hi) hge
                subst he
                have p12 := hpre 12 (by kernel_rfl)
                have e12 := HB.out.f19 p12
                subst e12
                have q9 := (nine_at HB.out.f4).1
                have cHY0 := q9.1
                have cHY1 := q9.2.1
                have cHY2 := q9.2.2.1
                have cHY3 := q9.2.2.2.1
                have cHY4 := q9.2.2.2.2.1
                have cHY5 := q9.2.2.2.2.2.1
                have cHY6 := q9.2.2.2.2.2.2.1
                have cHY7 := q9.2.2.2.2.2.2.2.1
                have cHY8 := q9.2.2.2.2.2.2.2.2
                clear q9
                refine step_of ⟨some 38, _, _, _, _, _⟩ rfl (fun K' hK => ?_)
                simp only [putAll, List.zip_cons_cons, List.zip_nil_right, List.foldl_cons, List.foldl_nil, List.setIfInBounds_toArray, List.set_cons_zero, List.set_cons_succ]
                rw [if_pos (by rfl)]
                go_simp
                refine hK.out _ _ ⟨_, ⟨s18, s19, s20, s21, s22, s23, s24, s25, s26, s27, s28, s29, .bool true, s31, s32, s33, s34, s35, s36, s37, .agg #[.int .i64 vb.k, .string vb.n, .string vb.d, .string vb.t, .bool vb.on, .int .i64 vb.c, .int .i64 vb.r, .int .i64 vb.s, .slice vb.A vb.L vb.C], s39, s40, s41, s42, s43, s44, s45, s46, s47, s48, s49, s50, s51, s52, s53, s54, s55, s56, s57, s58, s59, s60, s61, s4, rfl, ?_⟩, ?fr⟩
                case fr => simp only [putAll, List.zip_cons_cons, List.zip_nil_right, List.foldl_cons, List.foldl_nil, List.setIfInBounds_toArray, List.set_cons_zero, List.set_cons_succ]
                exact ⟨HB.out.f0, HB.out.f1, HB.out.f2, HB.out.f3, HB.out.f4, HB.out.f5, HB.out.f6, bq HB.out.f7, bq HB.out.f8, bq2 HB.out.f9, bq HB.out.f10, bq HB.out.f11, bq2 HB.out.f12, bq HB.out.f13, bq HB.out.f14, bq2 HB.out.f15, bq HB.out.f16, bq HB.out.f17, bq HB.out.f18, bq HB.out.f19, bq HB.out.f20, bq HB.out.f21, bq2 HB.out.f22, bq HB.out.f23, bq HB.out.f24, bq2 HB.out.f25, bq HB.out.f26, fun _ => rfl, bq2 HB.out.f28, bq HB.out.f29, bq HB.out.f30, bq HB.out.f31, bq HB.out.f32, bq HB.out.f33, bq HB.out.f34, bq HB.out.f35, bq2 HB.out.f36, bq HB.out.f37, bq HB.out.f38, bq2 HB.out.f39, bq HB.out.f40, bq HB.out.f41, bq HB.out.f42, bq HB.out.f43, bq HB.out.f44, bq HB.out.f45, bq2 HB.out.f46, bq HB.out.f47, bq HB.out.f48, bq HB.out.f49, bq HB.out.f50, bq HB.out.f51⟩
              · replace hge : 21 ≤ i := hgt
                clear hgt
                have he : i = 21 := Nat.le_antisymm (Nat.le_of_lt_succ hi) hge
                subst he
                have p20 := hpre 20 (by kernel_rfl)
                have e20 := HB.out.f27 p20
                subst e20
                have p12 := hpre 12 (by kernel_rfl)
                have e12 := HB.out.f19 p12
                subst e12
                refine step_of ⟨some 39, _, _, _, _, _⟩ rfl (fun K' hK => ?_)
                simp only [putAll, List.zip_cons_cons, List.zip_nil_right, List.foldl_cons, List.foldl_nil, List.setIfInBounds_toArray, List.set_cons_zero, List.set_cons_succ]
                rw [if_pos (by rfl)]
                go_simp
                have hq : Below W.heap.size W (W.alloc (.cells #[.int .i64 vb.k, .string vb.n, .string vb.d, .string vb.t, .bool vb.on, .int .i64 vb.c, .int .i64 vb.r, .int .i64 vb.s, .slice vb.A vb.L vb.C] 27)) := (Below.refl _ _).alloc (Nat.le_refl _) _
                refine hK.out _ _ ⟨_, ⟨s18, s19, s20, s21, s22, s23, s24, s25, s26, s27, s28, s29, .bool true, s31, s32, s33, s34, s35, s36, s37, .agg #[.int .i64 vb.k, .string vb.n, .string vb.d, .string vb.t, .bool vb.on, .int .i64 vb.c, .int .i64 vb.r, .int .i64 vb.s, .slice vb.A vb.L vb.C], .slice (some ⟨W.heap.size, 0, none⟩) 1 1, s40, s41, s42, s43, s44, s45, s46, s47, s48, s49, s50, s51, s52, s53, s54, s55, s56, s57, s58, s59, s60, s61, s4, rfl, ?_⟩, ?fr⟩
                case fr => simp only [putAll, List.zip_cons_cons, List.zip_nil_right, List.foldl_cons, List.foldl_nil, List.setIfInBounds_toArray, List.set_cons_zero, List.set_cons_succ]
                exact ⟨(HB.out.f0).below hq, (HB.out.f1).trans (hq.mono (HB.out.f1).size), Nat.le_trans (HB.out.f2) hq.size, keep_block (HB.out.f3) hq, keep_block (HB.out.f4) hq, (HB.out.f5).below hq, (HB.out.f6).below hq, bq HB.out.f7, bq HB.out.f8, bq3 hq HB.out.f9, bq HB.out.f10, bq HB.out.f11, bq3 hq HB.out.f12, bq HB.out.f13, bq HB.out.f14, bq3 hq HB.out.f15, bq HB.out.f16, bq HB.out.f17, bq HB.out.f18, bq HB.out.f19, bq HB.out.f20, bq HB.out.f21, bq3 hq HB.out.f22, bq HB.out.f23, bq HB.out.f24, bq3 hq HB.out.f25, bq HB.out.f26, bq HB.out.f27, fun _ _ => ⟨W.heap.size, rfl, heap_alloc_new W _⟩, bq HB.out.f29, bq HB.out.f30, bq HB.out.f31, bq HB.out.f32, bq HB.out.f33, bq HB.out.f34, bq HB.out.f35, bq3 hq HB.out.f36, bq HB.out.f37, bq HB.out.f38, bq3 hq HB.out.f39, bq HB.out.f40, bq HB.out.f41, bq HB.out.f42, bq HB.out.f43, bq HB.out.f44, bq HB.out.f45, bq3 hq HB.out.f46, bq HB.out.f47, bq HB.out.f48, bq HB.out.f49, bq HB.out.f50, bq HB.out.f51⟩
    · replace hge : 22 ≤ i := hgt
      clear hgt
      rcases Nat.lt_or_ge i 33 with hlt | hgt
      · replace hi := hlt
        clear hlt
        rcases Nat.lt_or_ge i 27 with hlt | hgt
        · replace hi := hlt
          clear hlt
          rcases Nat.lt_or_ge i 24 with hlt | hgt
          · replace hi := hlt
            clear hlt
            rcases Nat.lt_or_ge i 23 with hlt | hgt
            · replace hi := hlt
              clear hlt
              have he : i = 22 := Nat.le_antisymm (Nat.le_of_lt_succ hi) hge
              subst he
              have p21 := hpre 21 (by kernel_rfl)
              obtain ⟨G, hG, hGB⟩ := HB.out.f28 p21 (bit_off hun)
              subst hG
              have p12 := hpre 12 (by kernel_rfl)
              have e12 := HB.out.f19 p12
              subst e12
              refine step_of ⟨some 40, _, _, _, _, _⟩ rfl (fun K' hK => ?_)
              simp only [putAll, List.zip_cons_cons, List.zip_nil_right, List.foldl_cons, List.foldl_nil, List.setIfInBounds_toArray, List.set_cons_zero, List.set_cons_succ]
              rw [if_pos (by rfl)]
              go_simp
              go_at_call 10
              (with_reducible refine (K6.out _ G 1 vb rb (vals_of_block hGB rfl) (HB.out.f6) HB.out.f0).mono ?_)
              rintro e W2 ⟨rfl, hq⟩
              refine hK.out _ _ ⟨_, ⟨s18, s19, s20, s21, s22, s23, s24, s25, s26, s27, s28, s29, .bool true, s31, s32, s33, s34, s35, s36, s37, s38, .slice (some ⟨G, 0, none⟩) 1 1, .agg #[.int .i64 1, .string (numS tb), .string (denS tb), .string { data := #[] }, .bool false, .int .i64 0, .int .i64 0, .int .i64 0, .slice none 0 0], s41, s42, s43, s44, s45, s46, s47, s48, s49, s50, s51, s52, s53, s54, s55, s56, s57, s58, s59, s60, s61, s4, rfl, ?_⟩, ?fr⟩
              case fr => simp only [putAll, List.zip_cons_cons, List.zip_nil_right, List.foldl_cons, List.foldl_nil, List.setIfInBounds_toArray, List.set_cons_zero, List.set_cons_succ]
              exact ⟨(HB.out.f0).below hq, (HB.out.f1).trans (hq.mono (HB.out.f1).size), Nat.le_trans (HB.out.f2) hq.size, keep_block (HB.out.f3) hq, keep_block (HB.out.f4) hq, (HB.out.f5).below hq, (HB.out.f6).below hq, bq HB.out.f7, bq HB.out.f8, bq3 hq HB.out.f9, bq HB.out.f10, bq HB.out.f11, bq3 hq HB.out.f12, bq HB.out.f13, bq HB.out.f14, bq3 hq HB.out.f15, bq HB.out.f16, bq HB.out.f17, bq HB.out.f18, bq HB.out.f19, bq HB.out.f20, bq HB.out.f21, bq3 hq HB.out.f22, bq HB.out.f23, bq HB.out.f24, bq3 hq HB.out.f25, bq HB.out.f26, bq HB.out.f27, fun h h2 => absurd (bit_self hun) h2, fun _ => rfl, bq HB.out.f30, bq HB.out.f31, bq HB.out.f32, bq HB.out.f33, bq HB.out.f34, bq HB.out.f35, bq3 hq HB.out.f36, bq HB.out.f37, bq HB.out.f38, bq3 hq HB.out.f39, bq HB.out.f40, bq HB.out.f41, bq HB.out.f42, bq HB.out.f43, bq HB.out.f44, bq HB.out.f45, bq3 hq HB.out.f46, bq HB.out.f47, bq HB.out.f48, bq HB.out.f49, bq HB.out.f50, bq HB.out.f51⟩
            · replace hge : 23 ≤ i := hgt
              clear hgt
              have he : i = 23 := Nat.le_antisymm (Nat.le_of_lt_succ hi) hge
              subst he
              have p19 := hpre 19 (by kernel_rfl)
              have e19 := HB.out.f26 p19
              subst e19
              have p22 := hpre 22 (by kernel_rfl)
              have e22 := HB.out.f29 p22
              subst e22
              have p12 := hpre 12 (by kernel_rfl)
              have e12 := HB.out.f19 p12
              subst e12
              refine step_of ⟨some 41, _, _, _, _, _⟩ rfl (fun K' hK => ?_)
              simp only [putAll, List.zip_cons_cons, List.zip_nil_right, List.foldl_cons, List.foldl_nil, List.setIfInBounds_toArray, List.set_cons_zero, List.set_cons_succ]
              rw [if_pos (by rfl)]
              go_simp
              go_at_call 13
              (with_reducible refine (TQ.out _ HB.out.f0).mono ?_)
              rintro e W2 ⟨rfl, hq⟩
              refine hK.out _ _ ⟨_, ⟨s18, s19, s20, s21, s22, s23, s24, s25, s26, s27, s28, s29, .bool true, s31, s32, s33, s34, s35, s36, .agg #[.int .i64 1, .string (numS ta), .string (denS ta), .string { data := #[] }, .bool false, .int .i64 0, .int .i64 0, .int .i64 0, .slice none 0 0], s38, s39, .agg #[.int .i64 1, .string (numS tb), .string (denS tb), .string { data := #[] }, .bool false, .int .i64 0, .int .i64 0, .int .i64 0, .slice none 0 0], .agg #[.int .i64 1, .string (numS tab), .string (denS tab), .string { data := #[] }, .bool false, .int .i64 0, .int .i64 0, .int .i64 0, .slice none 0 0], s42, s43, s44, s45, s46, s47, s48, s49, s50, s51, s52, s53, s54, s55, s56, s57, s58, s59, s60, s61, s4, rfl, ?_⟩, ?fr⟩
              case fr => simp only [putAll, List.zip_cons_cons, List.zip_nil_right, List.foldl_cons, List.foldl_nil, List.setIfInBounds_toArray, List.set_cons_zero, List.set_cons_succ]
              exact ⟨(HB.out.f0).below hq, (HB.out.f1).trans (hq.mono (HB.out.f1).size), Nat.le_trans (HB.out.f2) hq.size, keep_block (HB.out.f3) hq, keep_block (HB.out.f4) hq, (HB.out.f5).below hq, (HB.out.f6).below hq, bq HB.out.f7, bq HB.out.f8, bq3 hq HB.out.f9, bq HB.out.f10, bq HB.out.f11, bq3 hq HB.out.f12, bq HB.out.f13, bq HB.out.f14, bq3 hq HB.out.f15, bq HB.out.f16, bq HB.out.f17, bq HB.out.f18, bq HB.out.f19, bq HB.out.f20, bq HB.out.f21, bq3 hq HB.out.f22, bq HB.out.f23, bq HB.out.f24, bq3 hq HB.out.f25, bq HB.out.f26, bq HB.out.f27, bq3 hq HB.out.f28, bq HB.out.f29, fun _ => rfl, bq HB.out.f31, bq HB.out.f32, bq HB.out.f33, bq HB.out.f34, bq HB.out.f35, bq3 hq HB.out.f36, bq HB.out.f37, bq HB.out.f38, bq3 hq HB.out.f39, bq HB.out.f40, bq HB.out.f41, bq HB.out.f42, bq HB.out.f43, bq HB.out.f44, bq HB.out.f45, bq3 hq HB.out.f46, bq HB.out.f47, bq HB.out.f48, bq HB.out.f49, bq HB.out.f50, bq HB.out.f51⟩
          · replace hge : 24 ≤ i := hgt
            clear hgt
            rcases Nat.lt_or_ge i 25 with hlt | hgt
            · replace hi := hlt
              clear hlt
              have he : i = 24 := Nat.le_antisymm (Nat.le_of_lt_succ hi) hge
              subst he
              have p16 := hpre 16 (by kernel_rfl)
              have e16 := HB.out.f23 p16
              subst e16
              have p23 := hpre 23 (by kernel_rfl)
              have e23 := HB.out.f30 p23
              subst e23
              have p12 := hpre 12 (by kernel_rfl)
              have e12 := HB.out.f19 p12
              subst e12
              refine step_of ⟨some 42, _, _, _, _, _⟩ rfl (fun K' hK => ?_)
              simp only [putAll, List.zip_cons_cons, List.zip_nil_right, List.foldl_cons, List.foldl_nil, List.setIfInBounds_toArray, List.set_cons_zero, List.set_cons_succ]
              rw [if_pos (by rfl)]
              go_simp
              go_at_call 12
              (with_reducible refine (same_self tab _).mono ?_)
              rintro e W2 ⟨rfl, hq⟩
              refine hK.out _ _ ⟨_, ⟨s18, s19, s20, s21, s22, s23, s24, s25, s26, s27, s28, s29, .bool true, s31, s32, s33, .agg #[.int .i64 1, .string (numS tab), .string (denS tab), .string { data := #[] }, .bool false, .int .i64 0, .int .i64 0, .int .i64 0, .slice none 0 0], s35, s36, s37, s38, s39, s40, .agg #[.int .i64 1, .string (numS tab), .string (denS tab), .string { data := #[] }, .bool false, .int .i64 0, .int .i64 0, .int .i64 0, .slice none 0 0], .bool true, s43, s44, s45, s46, s47, s48, s49, s50, s51, s52, s53, s54, s55, s56, s57, s58, s59, s60, s61, s4, rfl, ?_⟩, ?fr⟩
              case fr => simp only [putAll, List.zip_cons_cons, List.zip_nil_right, List.foldl_cons, List.foldl_nil, List.setIfInBounds_toArray, List.set_cons_zero, List.set_cons_succ]
              exact ⟨(HB.out.f0).below hq, (HB.out.f1).trans (hq.mono (HB.out.f1).size), Nat.le_trans (HB.out.f2) hq.size, keep_block (HB.out.f3) hq, keep_block (HB.out.f4) hq, (HB.out.f5).below hq, (HB.out.f6).below hq, bq HB.out.f7, bq HB.out.f8, bq3 hq HB.out.f9, bq HB.out.f10, bq HB.out.f11, bq3 hq HB.out.f12, bq HB.out.f13, bq HB.out.f14, bq3 hq HB.out.f15, bq HB.out.f16, bq HB.out.f17, bq HB.out.f18, bq HB.out.f19, bq HB.out.f20, bq HB.out.f21, bq3 hq HB.out.f22, bq HB.out.f23, bq HB.out.f24, bq3 hq HB.out.f25, bq HB.out.f26, bq HB.out.f27, bq3 hq HB.out.f28, bq HB.out.f29, bq HB.out.f30, fun _ => rfl, bq HB.out.f32, bq HB.out.f33, bq HB.out.f34, bq HB.out.f35, bq3 hq HB.out.f36, bq HB.out.f37, bq HB.out.f38, bq3 hq HB.out.f39, bq HB.out.f40, bq HB.out.f41, bq HB.out.f42, bq HB.out.f43, bq HB.out.f44, bq HB.out.f45, bq3 hq HB.out.f46, bq HB.out.f47, bq HB.out.f48, bq HB.out.f49, bq HB.out.f50, bq HB.out.f51⟩
            · replace hge : 25 ≤ i := hgt
              clear hgt
              rcases Nat.lt_or_ge i 26 with hlt | hgt
              · replace hi := hlt
                clear hlt
                have he : i = 25 := Nat.le_antisymm (Nat.le_of_lt_succ hi) hge
                subst he
                have p12 := hpre 12 (by kernel_rfl)
                have e12 := HB.out.f19 p12
                subst e12
                have p24 := hpre 24 (by kernel_rfl)
                have e24 := HB.out.f31 p24
                subst e24
                refine step_of ⟨some 43, _, _, _, _, _⟩ rfl (fun K' hK => ?_)
                simp only [putAll, List.zip_cons_cons, List.zip_nil_right, List.foldl_cons, List.foldl_nil, List.setIfInBounds_toArray, List.set_cons_zero, List.set_cons_succ]
                go_simp
                refine hK.out _ _ ⟨_, ⟨s18, s19, s20, s21, s22, s23, s24, s25, s26, s27, s28, s29, .bool true, s31, s32, s33, s34, s35, s36, s37, s38, s39, s40, s41, .bool true, .bool true, s44, s45, s46, s47, s48, s49, s50, s51, s52, s53, s54, s55, s56, s57, s58, s59, s60, s61, s4, rfl, ?_⟩, ?fr⟩
                case fr => simp only [putAll, List.zip_cons_cons, List.zip_nil_right, List.foldl_cons, List.foldl_nil, List.setIfInBounds_toArray, List.set_cons_zero, List.set_cons_succ]
                exact ⟨HB.out.f0, HB.out.f1, HB.out.f2, HB.out.f3, HB.out.f4, HB.out.f5, HB.out.f6, bq HB.out.f7, bq HB.out.f8, bq2 HB.out.f9, bq HB.out.f10, bq HB.out.f11, bq2 HB.out.f12, bq HB.out.f13, bq HB.out.f14, bq2 HB.out.f15, bq HB.out.f16, bq HB.out.f17, bq HB.out.f18, bq HB.out.f19, bq HB.out.f20, bq HB.out.f21, bq2 HB.out.f22, bq HB.out.f23, bq HB.out.f24, bq2 HB.out.f25, bq HB.out.f26, bq HB.out.f27, bq2 HB.out.f28, bq HB.out.f29, bq HB.out.f30, bq HB.out.f31, fun _ => rfl, bq HB.out.f33, bq HB.out.f34, bq HB.out.f35, bq2 HB.out.f36, bq HB.out.f37, bq HB.out.f38, bq2 HB.out.f39, bq HB.out.f40, bq HB.out.f41, bq HB.out.f42, bq HB.out.f43, bq HB.out.f44, bq HB.out.f45, bq2 HB.out.f46, bq HB.out.f47, bq HB.out.f48, bq HB.out.f49, bq HB.out.f50, bq HB.out.f51⟩
              · replace hge : 26 ≤ i := hgt
                clear hgt
                have he : i = 26 := Nat.le_antisymm (Nat.le_of_lt_succ hi) hge
                subst he
                have p25 := hpre 25 (by kernel_rfl)
                have e25 := HB.out.f32 p25
                subst e25
                refine step_of ⟨some 44, _, _, _, _, _⟩ rfl (fun K' hK => ?_)
                simp only [putAll, List.zip_cons_cons, List.zip_nil_right, List.foldl_cons, List.foldl_nil, List.setIfInBounds_toArray, List.set_cons_zero, List.set_cons_succ]
                go_simp
                refine hK.out _ _ ⟨_, ⟨s18, s19, s20, s21, s22, s23, s24, s25, s26, s27, s28, s29, s30, s31, s32, s33, s34, s35, s36, s37, s38, s39, s40, s41, s42, .bool true, .bool true, s45, s46, s47, s48, s49, s50, s51, s52, s53, s54, s55, s56, s57, s58, s59, s60, s61, s4, rfl, ?_⟩, ?fr⟩
                case fr => simp only [putAll, List.zip_cons_cons, List.zip_nil_right, List.foldl_cons, List.foldl_nil, List.setIfInBounds_toArray, List.set_cons_zero, List.set_cons_succ]
                exact ⟨HB.out.f0, HB.out.f1, HB.out.f2, HB.out.f3, HB.out.f4, HB.out.f5, HB.out.f6, bq HB.out.f7, bq HB.out.f8, bq2 HB.out.f9, bq HB.out.f10, bq HB.out.f11, bq2 HB.out.f12, bq HB.out.f13, bq HB.out.f14, bq2 HB.out.f15, bq HB.out.f16, bq HB.out.f17, bq HB.out.f18, bq HB.out.f19, bq HB.out.f20, bq HB.out.f21, bq2 HB.out.f22, bq HB.out.f23, bq HB.out.f24, bq2 HB.out.f25, bq HB.out.f26, bq HB.out.f27, bq2 HB.out.f28, bq HB.out.f29, bq HB.out.f30, bq HB.out.f31, bq HB.out.f32, fun _ => rfl, bq HB.out.f34, bq HB.out.f35, bq2 HB.out.f36, bq HB.out.f37, bq HB.out.f38, bq2 HB.out.f39, bq HB.out.f40, bq HB.out.f41, bq HB.out.f42, bq HB.out.f43, bq HB.out.f44, bq HB.out.f45, bq2 HB.out.f46, bq HB.out.f47, bq HB.out.f48, bq HB.out.f49, bq HB.out.f50, bq HB.out.f51⟩
        · replace hge : 27 ≤ i := hgt
          clear hgt
          rcases Nat.lt_or_ge i 30 with hlt | hgt
          · replace hi := hlt
            clear hlt
            rcases Nat.lt_or_ge i 28 with hlt | hgt
            · replace hi := hlt
              clear hlt
              have he : i = 27 := Nat.le_antisymm (Nat.le_of_lt_succ hi) hge
              subst he
              have p26 := hpre 26 (by kernel_rfl)
              have e26 := HB.out.f33 p26
              subst e26
              have q9 := (nine_at HB.out.f3).1
              have cHX0 := q9.1
              have cHX1 := q9.2.1
              have cHX2 := q9.2.2.1
              have cHX3 := q9.2.2.2.1
              have cHX4 := q9.2.2.2.2.1
              have cHX5 := q9.2.2.2.2.2.1
              have cHX6 := q9.2.2.2.2.2.2.1
              have cHX7 := q9.2.2.2.2.2.2.2.1
              have cHX8 := q9.2.2.2.2.2.2.2.2
              clear q9
              refine step_of ⟨some 45, _, _, _, _, _⟩ rfl (fun K' hK => ?_)
              simp only [putAll, List.zip_cons_cons, List.zip_nil_right, List.foldl_cons, List.foldl_nil, List.setIfInBounds_toArray, List.set_cons_zero, List.set_cons_succ]
              rw [if_pos (by rfl)]
              go_simp
              refine hK.out _ _ ⟨_, ⟨s18, s19, s20, s21, s22, s23, s24, s25, s26, s27, s28, s29, s30, s31, s32, s33, s34, s35, s36, s37, s38, s39, s40, s41, s42, s43, .bool true, .agg #[.int .i64 va.k, .string va.n, .string va.d, .string va.t, .bool va.on, .int .i64 va.c, .int .i64 va.r, .int .i64 va.s, .slice va.A va.L va.C], s46, s47, s48, s49, s50, s51, s52, s53, s54, s55, s56, s57, s58, s59, s60, s61, s4, rfl, ?_⟩, ?fr⟩
              case fr => simp only [putAll, List.zip_cons_cons, List.zip_nil_right, List.foldl_cons, List.foldl_nil, List.setIfInBounds_toArray, List.set_cons_zero, List.set_cons_succ]
              exact ⟨HB.out.f0, HB.out.f1, HB.out.f2, HB.out.f3, HB.out.f4, HB.out.f5, HB.out.f6, bq HB.out.f7, bq HB.out.f8, bq2 HB.out.f9, bq HB.out.f10, bq HB.out.f11, bq2 HB.out.f12, bq HB.out.f13, bq HB.out.f14, bq2 HB.out.f15, bq HB.out.f16, bq HB.out.f17, bq HB.out.f18, bq HB.out.f19, bq HB.out.f20, bq HB.out.f21, bq2 HB.out.f22, bq HB.out.f23, bq HB.out.f24, bq2 HB.out.f25, bq HB.out.f26, bq HB.out.f27, bq2 HB.out.f28, bq HB.out.f29, bq HB.out.f30, bq HB.out.f31, bq HB.out.f32, bq HB.out.f33, fun _ => rfl, bq HB.out.f35, bq2 HB.out.f36, bq HB.out.f37, bq HB.out.f38, bq2 HB.out.f39, bq HB.out.f40, bq HB.out.f41, bq HB.out.f42, bq HB.out.f43, bq HB.out.f44, bq HB.out.f45, bq2 HB.out.f46, bq HB.out.f47, bq HB.out.f48, bq HB.out.f49, bq HB.out.f50, bq HB.out.f51⟩
            · replace hge : 28 ≤ i := hgt
              clear hgt
              rcases Nat.lt_or_ge i 29 with hlt | hgt
              · replace hi := hlt
                clear hlt
                have he : i = 28 := Nat.le_antisymm (Nat.le_of_lt_succ hi) hge
                subst he
                have p26 := hpre 26 (by kernel_rfl)
                have e26 := HB.out.f33 p26
                subst e26
                have q9 := (nine_at HB.out.f3).1
                have cHX0 := q9.1
                have cHX1 := q9.2.1
                have cHX2 := q9.2.2.1
                have cHX3 := q9.2.2.2.1
                have cHX4 := q9.2.2.2.2.1
                have cHX5 := q9.2.2.2.2.2.1
                have cHX6 := q9.2.2.2.2.2.2.1
                have cHX7 := q9.2.2.2.2.2.2.2.1
                have cHX8 := q9.2.2.2.2.2.2.2.2
                clear q9
                refine step_of ⟨some 46, _, _, _, _, _⟩ rfl (fun K' hK => ?_)
                simp only [putAll, List.zip_cons_cons, List.zip_nil_right, List.foldl_cons, List.foldl_nil, List.setIfInBounds_toArray, List.set_cons_zero, List.set_cons_succ]
                rw [if_pos (by rfl)]
                go_simp
                refine hK.out _ _ ⟨_, ⟨s18, s19, s20, s21, s22, s23, s24, s25, s26, s27, s28, s29, s30, s31, s32, s33, s34, s35, s36, s37, s38, s39, s40, s41, s42, s43, .bool true, s45, .agg #[.int .i64 va.k, .string va.n, .string va.d, .string va.t, .bool va.on, .int .i64 va.c, .int .i64 va.r, .int .i64 va.s, .slice va.A va.L va.C], s47, s48, s49, s50, s51, s52, s53, s54, s55, s56, s57, s58, s59, s60, s61, s4, rfl, ?_⟩, ?fr⟩
                case fr => simp only [putAll, List.zip_cons_cons, List.zip_nil_right, List.foldl_cons, List.foldl_nil, List.setIfInBounds_toArray, List.set_cons_zero, List.set_cons_succ]
                exact ⟨HB.out.f0, HB.out.f1, HB.out.f2, HB.out.f3, HB.out.f4, HB.out.f5, HB.out.f6, bq HB.out.f7, bq HB.out.f8, bq2 HB.out.f9, bq HB.out.f10, bq HB.out.f11, bq2 HB.out.f12, bq HB.out.f13, bq HB.out.f14, bq2 HB.out.f15, bq HB.out.f16, bq HB.out.f17, bq HB.out.f18, bq HB.out.f19, bq HB.out.f20, bq HB.out.f21, bq2 HB.out.f22, bq HB.out.f23, bq HB.out.f24, bq2 HB.out.f25, bq HB.out.f26, bq HB.out.f27, bq2 HB.out.f28, bq HB.out.f29, bq HB.out.f30, bq HB.out.f31, bq HB.out.f32, bq HB.out.f33, bq HB.out.f34, fun _ => rfl, bq2 HB.out.f36, bq HB.out.f37, bq HB.out.f38, bq2 HB.out.f39, bq HB.out.f40, bq HB.out.f41, bq HB.out.f42, bq HB.out.f43, bq HB.out.f44, bq HB.out.f45, bq2 HB.out.f46, bq HB.out.f47, bq HB.out.f48, bq HB.out.f49, bq HB.out.f50, bq HB.out.f51⟩
              · replace hge : 29 ≤ i := hgt
                clear hgt
                have he : i = 29 := Nat.le_antisymm (Nat.le_of_lt_succ hi) hge
                subst he
                have p27 := hpre 27 (by kernel_rfl)
                have e27 := HB.out.f34 p27
                subst e27
                have p28 := hpre 28 (by kernel_rfl)
                have e28 := HB.out.f35 p28
                subst e28
                have p26 := hpre 26 (by kernel_rfl)
                have e26 := HB.out.f33 p26
                subst e26
                refine step_of ⟨some 47, _, _, _, _, _⟩ rfl (fun K' hK => ?_)
                simp only [putAll, List.zip_cons_cons, List.zip_nil_right, List.foldl_cons, List.foldl_nil, List.setIfInBounds_toArray, List.set_cons_zero, List.set_cons_succ]
                rw [if_pos (by rfl)]
                go_simp
                have hq : Below W.heap.size W (W.alloc (.cells #[.int .i64 va.k, .string va.n, .string va.d, .string va.t, .bool va.on, .int .i64 va.c, .int .i64 va.r, .int .i64 va.s, .slice va.A va.L va.C, .int .i64 va.k, .string va.n, .string va.d, .string va.t, .bool va.on, .int .i64 va.c, .int .i64 va.r, .int .i64 va.s, .slice va.A va.L va.C] 27)) := (Below.refl _ _).alloc (Nat.le_refl _) _
                refine hK.out _ _ ⟨_, ⟨s18, s19, s20, s21, s22, s23, s24, s25, s26, s27, s28, s29, s30, s31, s32, s33, s34, s35, s36, s37, s38, s39, s40, s41, s42, s43, .bool true, .agg #[.int .i64 va.k, .string va.n, .string va.d, .string va.t, .bool va.on, .int .i64 va.c, .int .i64 va.r, .int .i64 va.s, .slice va.A va.L va.C], .agg #[.int .i64 va.k, .string va.n, .string va.d, .string va.t, .bool va.on, .int .i64 va.c, .int .i64 va.r, .int .i64 va.s, .slice va.A va.L va.C], .slice (some ⟨W.heap.size, 0, none⟩) 2 2, s48, s49, s50, s51, s52, s53, s54, s55, s56, s57, s58, s59, s60, s61, s4, rfl, ?_⟩, ?fr⟩
                case fr => simp only [putAll, List.zip_cons_cons, List.zip_nil_right, List.foldl_cons, List.foldl_nil, List.setIfInBounds_toArray, List.set_cons_zero, List.set_cons_succ]
                exact ⟨(HB.out.f0).below hq, (HB.out.f1).trans (hq.mono (HB.out.f1).size), Nat.le_trans (HB.out.f2) hq.size, keep_block (HB.out.f3) hq, keep_block (HB.out.f4) hq, (HB.out.f5).below hq, (HB.out.f6).below hq, bq HB.out.f7, bq HB.out.f8, bq3 hq HB.out.f9, bq HB.out.f10, bq HB.out.f11, bq3 hq HB.out.f12, bq HB.out.f13, bq HB.out.f14, bq3 hq HB.out.f15, bq HB.out.f16, bq HB.out.f17, bq HB.out.f18, bq HB.out.f19, bq HB.out.f20, bq HB.out.f21, bq3 hq HB.out.f22, bq HB.out.f23, bq HB.out.f24, bq3 hq HB.out.f25, bq HB.out.f26, bq HB.out.f27, bq3 hq HB.out.f28, bq HB.out.f29, bq HB.out.f30, bq HB.out.f31, bq HB.out.f32, bq HB.out.f33, bq HB.out.f34, bq HB.out.f35, fun _ _ => ⟨W.heap.size, rfl, heap_alloc_new W _⟩, bq HB.out.f37, bq HB.out.f38, bq3 hq HB.out.f39, bq HB.out.f40, bq HB.out.f41, bq HB.out.f42, bq HB.out.f43, bq HB.out.f44, bq HB.out.f45, bq3 hq HB.out.f46, bq HB.out.f47, bq HB.out.f48, bq HB.out.f49, bq HB.out.f50, bq HB.out.f51⟩
          · replace hge : 30 ≤ i := hgt
            clear hgt
            rcases Nat.lt_or_ge i 31 with hlt | hgt
            · replace hi := hlt
              clear hlt
              have he : i = 30 := Nat.le_antisymm (Nat.le_of_lt_succ hi) hge
              subst he
              have p29 := hpre 29 (by kernel_rfl)
              obtain ⟨G, hG, hGB⟩ := HB.out.f36 p29 (bit_off hun)
              subst hG
              have p26 := hpre 26 (by kernel_rfl)
              have e26 := HB.out.f33 p26
              subst e26
              refine step_of ⟨some 48, _, _, _, _, _⟩ rfl (fun K' hK => ?_)
              simp only [putAll, List.zip_cons_cons, List.zip_nil_right, List.foldl_cons, List.foldl_nil, List.setIfInBounds_toArray, List.set_cons_zero, List.set_cons_succ]
              rw [if_pos (by rfl)]
              go_simp
              go_at_call 10
              (with_reducible refine (K7.out _ G 2 va va ra ra (vals_of_block hGB rfl) (HB.out.f5) (HB.out.f5) HB.out.f0).mono ?_)
              rintro e W2 ⟨rfl, hq⟩
              refine hK.out _ _ ⟨_, ⟨s18, s19, s20, s21, s22, s23, s24, s25, s26, s27, s28, s29, s30, s31, s32, s33, s34, s35, s36, s37, s38, s39, s40, s41, s42, s43, .bool true, s45, s46, .slice (some ⟨G, 0, none⟩) 2 2, .agg #[.int .i64 1, .string (numS ta), .string (denS ta), .string { data := #[] }, .bool false, .int .i64 0, .int .i64 0, .int .i64 0, .slice none 0 0], s49, s50, s51, s52, s53, s54, s55, s56, s57, s58, s59, s60, s61, s4, rfl, ?_⟩, ?fr⟩
              case fr => simp only [putAll, List.zip_cons_cons, List.zip_nil_right, List.foldl_cons, List.foldl_nil, List.setIfInBounds_toArray, List.set_cons_zero, List.set_cons_succ]
              exact ⟨(HB.out.f0).below hq, (HB.out.f1).trans (hq.mono (HB.out.f1).size), Nat.le_trans (HB.out.f2) hq.size, keep_block (HB.out.f3) hq, keep_block (HB.out.f4) hq, (HB.out.f5).below hq, (HB.out.f6).below hq, bq HB.out.f7, bq HB.out.f8, bq3 hq HB.out.f9, bq HB.out.f10, bq HB.out.f11, bq3 hq HB.out.f12, bq HB.out.f13, bq HB.out.f14, bq3 hq HB.out.f15, bq HB.out.f16, bq HB.out.f17, bq HB.out.f18, bq HB.out.f19, bq HB.out.f20, bq HB.out.f21, bq3 hq HB.out.f22, bq HB.out.f23, bq HB.out.f24, bq3 hq HB.out.f25, bq HB.out.f26, bq HB.out.f27, bq3 hq HB.out.f28, bq HB.out.f29, bq HB.out.f30, bq HB.out.f31, bq HB.out.f32, bq HB.out.f33, bq HB.out.f34, bq HB.out.f35, fun h h2 => absurd (bit_self hun) h2, fun _ => rfl, bq HB.out.f38, bq3 hq HB.out.f39, bq HB.out.f40, bq HB.out.f41, bq HB.out.f42, bq HB.out.f43, bq HB.out.f44, bq HB.out.f45, bq3 hq HB.out.f46, bq HB.out.f47, bq HB.out.f48, bq HB.out.f49, bq HB.out.f50, bq HB.out.f51⟩
            · replace hge : 31 ≤ i := hgt
              clear hgt
              rcases Nat.lt_or_ge i 32 with hlt | hgt
              · replace hi := hlt
                clear hlt
                have he : i = 31 := Nat.le_antisymm (Nat.le_of_lt_succ hi) hge
                subst he
                have p26 := hpre 26 (by kernel_rfl)
                have e26 := HB.out.f33 p26
                subst e26
                have q9 := (nine_at HB.out.f3).1
                have cHX0 := q9.1
                have cHX1 := q9.2.1
                have cHX2 := q9.2.2.1
                have cHX3 := q9.2.2.2.1
                have cHX4 := q9.2.2.2.2.1
                have cHX5 := q9.2.2.2.2.2.1
                have cHX6 := q9.2.2.2.2.2.2.1
                have cHX7 := q9.2.2.2.2.2.2.2.1
                have cHX8 := q9.2.2.2.2.2.2.2.2
                clear q9
                refine step_of ⟨some 49, _, _, _, _, _⟩ rfl (fun K' hK => ?_)
                simp only [putAll, List.zip_cons_cons, List.zip_nil_right, List.foldl_cons, List.foldl_nil, List.setIfInBounds_toArray, List.set_cons_zero, List.set_cons_succ]
                rw [if_pos (by rfl)]
                go_simp
                refine hK.out _ _ ⟨_, ⟨s18, s19, s20, s21, s22, s23, s24, s25, s26, s27, s28, s29, s30, s31, s32, s33, s34, s35, s36, s37, s38, s39, s40, s41, s42, s43, .bool true, s45, s46, s47, s48, .agg #[.int .i64 va.k, .string va.n, .string va.d, .string va.t, .bool va.on, .int .i64 va.c, .int .i64 va.r, .int .i64 va.s, .slice va.A va.L va.C], s50, s51, s52, s53, s54, s55, s56, s57, s58, s59, s60, s61, s4, rfl, ?_⟩, ?fr⟩
                case fr => simp only [putAll, List.zip_cons_cons, List.zip_nil_right, List.foldl_cons, List.foldl_nil, List.setIfInBounds_toArray, List.set_cons_zero, List.set_cons_succ]
                exact ⟨HB.out.f0, HB.out.f1, HB.out.f2, HB.out.f3, HB.out.f4, HB.out.f5, HB.out.f6, bq HB.out.f7, bq HB.out.f8, bq2 HB.out.f9, bq HB.out.f10, bq HB.out.f11, bq2 HB.out.f12, bq HB.out.f13, bq HB.out.f14, bq2 HB.out.f15, bq HB.out.f16, bq HB.out.f17, bq HB.out.f18, bq HB.out.f19, bq HB.out.f20, bq HB.out.f21, bq2 HB.out.f22, bq HB.out.f23, bq HB.out.f24, bq2 HB.out.f25, bq HB.out.f26, bq HB.out.f27, bq2 HB.out.f28, bq HB.out.f29, bq HB.out.f30, bq HB.out.f31, bq HB.out.f32, bq HB.out.f33, bq HB.out.f34, bq HB.out.f35, bq2 HB.out.f36, bq HB.out.f37, fun _ => rfl, bq2 HB.out.f39, bq HB.out.f40, bq HB.out.f41, bq HB.out.f42, bq HB.out.f43, bq HB.out.f44, bq HB.out.f45, bq2 HB.out.f46, bq HB.out.f47, bq HB.out.f48, bq HB.out.f49, bq HB.out.f50, bq HB.out.f51⟩
              · replace hge : 32 ≤ i := hgt
                clear hgt
                have he : i = 32 := Nat.le_antisymm (Nat.le_of_lt_succ hi) hge
                subst he
                have p31 := hpre 31 (by kernel_rfl)
                have e31 := HB.out.f38 p31
                subst e31
                have p26 := hpre 26 (by kernel_rfl)
                have e26 := HB.out.f33 p26
                subst e26
                refine step_of ⟨some 50, _, _, _, _, _⟩ rfl (fun K' hK => ?_)
                simp only [putAll, List.zip_cons_cons, List.zip_nil_right, List.foldl_cons, List.foldl_nil, List.setIfInBounds_toArray, List.set_cons_zero, List.set_cons_succ]
                rw [if_pos (by rfl)]
                go_simp
                have hq : Below W.heap.size W (W.alloc (.cells #[.int .i64 va.k, .string va.n, .string va.d, .string va.t, .bool va.on, .int .i64 va.c, .int .i64 va.r, .int .i64 va.s, .slice va.A va.L va.C] 27)) := (Below.refl _ _).alloc (Nat.le_refl _) _
                refine hK.out _ _ ⟨_, ⟨s18, s19, s20, s21, s22, s23, s24, s25, s26, s27, s28, s29, s30, s31, s32, s33, s34, s35, s36, s37, s38, s39, s40, s41, s42, s43, .bool true, s45, s46, s47, s48, .agg #[.int .i64 va.k, .string va.n, .string va.d, .string va.t, .bool va.on, .int .i64 va.c, .int .i64 va.r, .int .i64 va.s, .slice va.A va.L va.C], .slice (some ⟨W.heap.size, 0, none⟩) 1 1, s51, s52, s53, s54, s55, s56, s57, s58, s59, s60, s61, s4, rfl, ?_⟩, ?fr⟩
                case fr => simp only [putAll, List.zip_cons_cons, List.zip_nil_right, List.foldl_cons, List.foldl_nil, List.setIfInBounds_toArray, List.set_cons_zero, List.set_cons_succ]
                exact ⟨(HB.out.f0).below hq, (HB.out.f1).trans (hq.mono (HB.out.f1).size), Nat.le_trans (HB.out.f2) hq.size, keep_block (HB.out.f3) hq, keep_block (HB.out.f4) hq, (HB.out.f5).below hq, (HB.out.f6).below hq, bq HB.out.f7, bq HB.out.f8, bq3 hq HB.out.f9, bq HB.out.f10, bq HB.out.f11, bq3 hq HB.out.f12, bq HB.out.f13, bq HB.out.f14, bq3 hq HB.out.f15, bq HB.out.f16, bq HB.out.f17, bq HB.out.f18, bq HB.out.f19, bq HB.out.f20, bq HB.out.f21, bq3 hq HB.out.f22, bq HB.out.f23, bq HB.out.f24, bq3 hq HB.out.f25, bq HB.out.f26, bq HB.out.f27, bq3 hq HB.out.f28, bq HB.out.f29, bq HB.out.f30, bq HB.out.f31, bq HB.out.f32, bq HB.out.f33, bq HB.out.f34, bq HB.out.f35, bq3 hq HB.out.f36, bq HB.out.f37, bq HB.out.f38, fun _ _ => ⟨W.heap.size, rfl, heap_alloc_new W _⟩, bq HB.out.f40, bq HB.out.f41, bq HB.out.f42, bq HB.out.f43, bq HB.out.f44, bq HB.out.f45, bq3 hq HB.out.f46, bq HB.out.f47, bq HB.out.f48, bq HB.out.f49, bq HB.out.f50, bq HB.out.f51⟩
      · replace hge : 33 ≤ i := hgt
        clear hgt
        rcases Nat.lt_or_ge i 39 with hlt | hgt
        · replace hi := hlt
          clear hlt
          rcases Nat.lt_or_ge i 36 with hlt | hgt
          · replace hi := hlt
            clear hlt
            rcases Nat.lt_or_ge i 34 with hlt | hgt
            · replace hi := hlt
              clear hlt
              have he : i = 33 := Nat.le_antisymm (Nat.le_of_lt_succ hi) hge
              subst he
              have p32 := hpre 32 (by kernel_rfl)
              obtain ⟨G, hG, hGB⟩ := HB.out.f39 p32 (bit_off hun)
              subst hG
              have p26 := hpre 26 (by kernel_rfl)
              have e26 := HB.out.f33 p26
              subst e26
              refine step_of ⟨some 51, _, _, _, _, _⟩ rfl (fun K' hK => ?_)
              simp only [putAll, List.zip_cons_cons, List.zip_nil_right, List.foldl_cons, List.foldl_nil, List.setIfInBounds_toArray, List.set_cons_zero, List.set_cons_succ]
              rw [if_pos (by rfl)]
              go_simp
              go_at_call 10
              (with_reducible refine (K5.out _ G 1 va ra (vals_of_block hGB rfl) (HB.out.f5) HB.out.f0).mono ?_)
              rintro e W2 ⟨rfl, hq⟩
              refine hK.out _ _ ⟨_, ⟨s18, s19, s20, s21, s22, s23, s24, s25, s26, s27, s28, s29, s30, s31, s32, s33, s34, s35, s36, s37, s38, s39, s40, s41, s42, s43, .bool true, s45, s46, s47, s48, s49, .slice (some ⟨G, 0, none⟩) 1 1, .agg #[.int .i64 1, .string (numS ta), .string (denS ta), .string { data := #[] }, .bool false, .int .i64 0, .int .i64 0, .int .i64 0, .slice none 0 0], s52, s53, s54, s55, s56, s57, s58, s59, s60, s61, s4, rfl, ?_⟩, ?fr⟩
              case fr => simp only [putAll, List.zip_cons_cons, List.zip_nil_right, List.foldl_cons, List.foldl_nil, List.setIfInBounds_toArray, List.set_cons_zero, List.set_cons_succ]
              exact ⟨(HB.out.f0).below hq, (HB.out.f1).trans (hq.mono (HB.out.f1).size), Nat.le_trans (HB.out.f2) hq.size, keep_block (HB.out.f3) hq, keep_block (HB.out.f4) hq, (HB.out.f5).below hq, (HB.out.f6).below hq, bq HB.out.f7, bq HB.out.f8, bq3 hq HB.out.f9, bq HB.out.f10, bq HB.out.f11, bq3 hq HB.out.f12, bq HB.out.f13, bq HB.out.f14, bq3 hq HB.out.f15, bq HB.out.f16, bq HB.out.f17, bq HB.out.f18, bq HB.out.f19, bq HB.out.f20, bq HB.out.f21, bq3 hq HB.out.f22, bq HB.out.f23, bq HB.out.f24, bq3 hq HB.out.f25, bq HB.out.f26, bq HB.out.f27, bq3 hq HB.out.f28, bq HB.out.f29, bq HB.out.f30, bq HB.out.f31, bq HB.out.f32, bq HB.out.f33, bq HB.out.f34, bq HB.out.f35, bq3 hq HB.out.f36, bq HB.out.f37, bq HB.out.f38, fun h h2 => absurd (bit_self hun) h2, fun _ => rfl, bq HB.out.f41, bq HB.out.f42, bq HB.out.f43, bq HB.out.f44, bq HB.out.f45, bq3 hq HB.out.f46, bq HB.out.f47, bq HB.out.f48, bq HB.out.f49, bq HB.out.f50, bq HB.out.f51⟩
            · replace hge : 34 ≤ i := hgt
              clear hgt
              rcases Nat.lt_or_ge i 35 with hlt | hgt
              · replace hi := hlt
                clear hlt
                have he : i = 34 := Nat.le_antisymm (Nat.le_of_lt_succ hi) hge
                subst he
                have p30 := hpre 30 (by kernel_rfl)
                have e30 := HB.out.f37 p30
                subst e30
                have p33 := hpre 33 (by kernel_rfl)
                have e33 := HB.out.f40 p33
                subst e33
                have p26 := hpre 26 (by kernel_rfl)
                have e26 := HB.out.f33 p26
                subst e26
                refine step_of ⟨some 52, _, _, _, _, _⟩ rfl (fun K' hK => ?_)
                simp only [putAll, List.zip_cons_cons, List.zip_nil_right, List.foldl_cons, List.foldl_nil, List.setIfInBounds_toArray, List.set_cons_zero, List.set_cons_succ]
                rw [if_pos (by rfl)]
                go_simp
                go_at_call 12
                (with_reducible refine (same_self ta _).mono ?_)
                rintro e W2 ⟨rfl, hq⟩
                refine hK.out _ _ ⟨_, ⟨s18, s19, s20, s21, s22, s23, s24, s25, s26, s27, s28, s29, s30, s31, s32, s33, s34, s35, s36, s37, s38, s39, s40, s41, s42, s43, .bool true, s45, s46, s47, .agg #[.int .i64 1, .string (numS ta), .string (denS ta), .string { data := #[] }, .bool false, .int .i64 0, .int .i64 0, .int .i64 0, .slice none 0 0], s49, s50, .agg #[.int .i64 1, .string (numS ta), .string (denS ta), .string { data := #[] }, .bool false, .int .i64 0, .int .i64 0, .int .i64 0, .slice none 0 0], .bool true, s53, s54, s55, s56, s57, s58, s59, s60, s61, s4, rfl, ?_⟩, ?fr⟩
                case fr => simp only [putAll, List.zip_cons_cons, List.zip_nil_right, List.foldl_cons, List.foldl_nil, List.setIfInBounds_toArray, List.set_cons_zero, List.set_cons_succ]
                exact ⟨(HB.out.f0).below hq, (HB.out.f1).trans (hq.mono (HB.out.f1).size), Nat.le_trans (HB.out.f2) hq.size, keep_block (HB.out.f3) hq, keep_block (HB.out.f4) hq, (HB.out.f5).below hq, (HB.out.f6).below hq, bq HB.out.f7, bq HB.out.f8, bq3 hq HB.out.f9, bq HB.out.f10, bq HB.out.f11, bq3 hq HB.out.f12, bq HB.out.f13, bq HB.out.f14, bq3 hq HB.out.f15, bq HB.out.f16, bq HB.out.f17, bq HB.out.f18, bq HB.out.f19, bq HB.out.f20, bq HB.out.f21, bq3 hq HB.out.f22, bq HB.out.f23, bq HB.out.f24, bq3 hq HB.out.f25, bq HB.out.f26, bq HB.out.f27, bq3 hq HB.out.f28, bq HB.out.f29, bq HB.out.f30, bq HB.out.f31, bq HB.out.f32, bq HB.out.f33, bq HB.out.f34, bq HB.out.f35, bq3 hq HB.out.f36, bq HB.out.f37, bq HB.out.f38, bq3 hq HB.out.f39, bq HB.out.f40, fun _ => rfl, bq HB.out.f42, bq HB.out.f43, bq HB.out.f44, bq HB.out.f45, bq3 hq HB.out.f46, bq HB.out.f47, bq HB.out.f48, bq HB.out.f49, bq HB.out.f50, bq HB.out.f51⟩
              · replace hge : 35 ≤ i := hgt
                clear hgt
                have he : i = 35 := Nat.le_antisymm (Nat.le_of_lt_succ hi) hge
                subst he
                have p26 := hpre 26 (by kernel_rfl)
                have e26 := HB.out.f33 p26
                subst e26
                have p34 := hpre 34 (by kernel_rfl)
                have e34 := HB.out.f41 p34
                subst e34
                refine step_of ⟨some 53, _, _, _, _, _⟩ rfl (fun K' hK => ?_)
                simp only [putAll, List.zip_cons_cons, List.zip_nil_right, List.foldl_cons, List.foldl_nil, List.setIfInBounds_toArray, List.set_cons_zero, List.set_cons_succ]
                go_simp
                refine hK.out _ _ ⟨_, ⟨s18, s19, s20, s21, s22, s23, s24, s25, s26, s27, s28, s29, s30, s31, s32, s33, s34, s35, s36, s37, s38, s39, s40, s41, s42, s43, .bool true, s45, s46, s47, s48, s49, s50, s51, .bool true, .bool true, s54, s55, s56, s57, s58, s59, s60, s61, s4, rfl, ?_⟩, ?fr⟩
                case fr => simp only [putAll, List.zip_cons_cons, List.zip_nil_right, List.foldl_cons, List.foldl_nil, List.setIfInBounds_toArray, List.set_cons_zero, List.set_cons_succ]
                exact ⟨HB.out.f0, HB.out.f1, HB.out.f2, HB.out.f3, HB.out.f4, HB.out.f5, HB.out.f6, bq HB.out.f7, bq HB.out.f8, bq2 HB.out.f9, bq HB.out.f10, bq HB.out.f11, bq2 HB.out.f12, bq HB.out.f13, bq HB.out.f14, bq2 HB.out.f15, bq HB.out.f16, bq HB.out.f17, bq HB.out.f18, bq HB.out.f19, bq HB.out.f20, bq HB.out.f21, bq2 HB.out.f22, bq HB.out.f23, bq HB.out.f24, bq2 HB.out.f25, bq HB.out.f26, bq HB.out.f27, bq2 HB.out.f28, bq HB.out.f29, bq HB.out.f30, bq HB.out.f31, bq HB.out.f32, bq HB.out.f33, bq HB.out.f34, bq HB.out.f35, bq2 HB.out.f36, bq HB.out.f37, bq HB.out.f38, bq2 HB.out.f39, bq HB.out.f40, bq HB.out.f41, fun _ => rfl, bq HB.out.f43, bq HB.out.f44, bq HB.out.f45, bq2 HB.out.f46, bq HB.out.f47, bq HB.out.f48, bq HB.out.f49, bq HB.out.f50, bq HB.out.f51⟩
          · replace hge : 36 ≤ i := hgt
            clear hgt
            rcases Nat.lt_or_ge i 37 with hlt | hgt
            · replace hi := hlt
              clear hlt
              have he : i = 36 := Nat.le_antisymm (Nat.le_of_lt_succ hi) hge
              subst he
              have p35 := hpre 35 (by kernel_rfl)
              have e35 := HB.out.f42 p35
              subst e35
              refine step_of ⟨some 54, _, _, _, _, _⟩ rfl (fun K' hK => ?_)
              simp only [putAll, List.zip_cons_cons, List.zip_nil_right, List.foldl_cons, List.foldl_nil, List.setIfInBounds_toArray, List.set_cons_zero, List.set_cons_succ]
              go_simp
              refine hK.out _ _ ⟨_, ⟨s18, s19, s20, s21, s22, s23, s24, s25, s26, s27, s28, s29, s30, s31, s32, s33, s34, s35, s36, s37, s38, s39, s40, s41, s42, s43, s44, s45, s46, s47, s48, s49, s50, s51, s52, .bool true, .bool true, s55, s56, s57, s58, s59, s60, s61, s4, rfl, ?_⟩, ?fr⟩
              case fr => simp only [putAll, List.zip_cons_cons, List.zip_nil_right, List.foldl_cons, List.foldl_nil, List.setIfInBounds_toArray, List.set_cons_zero, List.set_cons_succ]
              exact ⟨HB.out.f0, HB.out.f1, HB.out.f2, HB.out.f3, HB.out.f4, HB.out.f5, HB.out.f6, bq HB.out.f7, bq HB.out.f8, bq2 HB.out.f9, bq HB.out.f10, bq HB.out.f11, bq2 HB.out.f12, bq HB.out.f13, bq HB.out.f14, bq2 HB.out.f15, bq HB.out.f16, bq HB.out.f17, bq HB.out.f18, bq HB.out.f19, bq HB.out.f20, bq HB.out.f21, bq2 HB.out.f22, bq HB.out.f23, bq HB.out.f24, bq2 HB.out.f25, bq HB.out.f26, bq HB.out.f27, bq2 HB.out.f28, bq HB.out.f29, bq HB.out.f30, bq HB.out.f31, bq HB.out.f32, bq HB.out.f33, bq HB.out.f34, bq HB.out.f35, bq2 HB.out.f36, bq HB.out.f37, bq HB.out.f38, bq2 HB.out.f39, bq HB.out.f40, bq HB.out.f41, bq HB.out.f42, fun _ => rfl, bq HB.out.f44, bq HB.out.f45, bq2 HB.out.f46, bq HB.out.f47, bq HB.out.f48, bq HB.out.f49, bq HB.out.f50, bq HB.out.f51⟩
            · replace hge : 37 ≤ i := hgt
              clear hgt
              rcases Nat.lt_or_ge i 38 with hlt | hgt
              · replace hi := hlt
                clear hlt
                have he : i = 37 := Nat.le_antisymm (Nat.le_of_lt_succ hi) hge
                subst he
                have p36 := hpre 36 (by kernel_rfl)
                have e36 := HB.out.f43 p36
                subst e36
                have q9 := (nine_at HB.out.f3).1
                have cHX0 := q9.1
                have cHX1 := q9.2.1
                have cHX2 := q9.2.2.1
                have cHX3 := q9.2.2.2.1
                have cHX4 := q9.2.2.2.2.1
                have cHX5 := q9.2.2.2.2.2.1
                have cHX6 := q9.2.2.2.2.2.2.1
                have cHX7 := q9.2.2.2.2.2.2.2.1
                have cHX8 := q9.2.2.2.2.2.2.2.2
                clear q9
                refine step_of ⟨some 55, _, _, _, _, _⟩ rfl (fun K' hK => ?_)
                simp only [putAll, List.zip_cons_cons, List.zip_nil_right, List.foldl_cons, List.foldl_nil, List.setIfInBounds_toArray, List.set_cons_zero, List.set_cons_succ]
                rw [if_pos (by rfl)]
                go_simp
                refine hK.out _ _ ⟨_, ⟨s18, s19, s20, s21, s22, s23, s24, s25, s26, s27, s28, s29, s30, s31, s32, s33, s34, s35, s36, s37, s38, s39, s40, s41, s42, s43, s44, s45, s46, s47, s48, s49, s50, s51, s52, s53, .bool true, .agg #[.int .i64 va.k, .string va.n, .string va.d, .string va.t, .bool va.on, .int .i64 va.c, .int .i64 va.r, .int .i64 va.s, .slice va.A va.L va.C], s56, s57, s58, s59, s60, s61, s4, rfl, ?_⟩, ?fr⟩
                case fr => simp only [putAll, List.zip_cons_cons, List.zip_nil_right, List.foldl_cons, List.foldl_nil, List.setIfInBounds_toArray, List.set_cons_zero, List.set_cons_succ]
                exact ⟨HB.out.f0, HB.out.f1, HB.out.f2, HB.out.f3, HB.out.f4, HB.out.f5, HB.out.f6, bq HB.out.f7, bq HB.out.f8, bq2 HB.out.f9, bq HB.out.f10, bq HB.out.f11, bq2 HB.out.f12, bq HB.out.f13, bq HB.out.f14, bq2 HB.out.f15, bq HB.out.f16, bq HB.out.f17, bq HB.out.f18, bq HB.out.f19, bq HB.out.f20, bq HB.out.f21, bq2 HB.out.f22, bq HB.out.f23, bq HB.out.f24, bq2 HB.out.f25, bq HB.out.f26, bq HB.out.f27, bq2 HB.out.f28, bq HB.out.f29, bq HB.out.f30, bq HB.out.f31, bq HB.out.f32, bq HB.out.f33, bq HB.out.f34, bq HB.out.f35, bq2 HB.out.f36, bq HB.out.f37, bq HB.out.f38, bq2 HB.out.f39, bq HB.out.f40, bq HB.out.f41, bq HB.out.f42, bq HB.out.f43, fun _ => rfl, bq HB.out.f45, bq2 HB.out.f46, bq HB.out.f47, bq HB.out.f48, bq HB.out.f49, bq HB.out.f50, bq HB.out.f51⟩
              · replace hge : 38 ≤ i := hgt
                clear hgt
                have he : i = 38 := Nat.le_antisymm (Nat.le_of_lt_succ hi) hge
                subst he
                have p36 := hpre 36 (by kernel_rfl)
                have e36 := HB.out.f43 p36
                subst e36
                have q9 := (nine_at HB.out.f3).1
                have cHX0 := q9.1
                have cHX1 := q9.2.1
                have cHX2 := q9.2.2.1
                have cHX3 := q9.2.2.2.1
                have cHX4 := q9.2.2.2.2.1
                have cHX5 := q9.2.2.2.2.2.1
                have cHX6 := q9.2.2.2.2.2.2.1
                have cHX7 := q9.2.2.2.2.2.2.2.1
                have cHX8 := q9.2.2.2.2.2.2.2.2
                clear q9
                refine step_of ⟨some 56, _, _, _, _, _⟩ rfl (fun K' hK => ?_)
                simp only [putAll, List.zip_cons_cons, List.zip_nil_right, List.foldl_cons, List.foldl_nil, List.setIfInBounds_toArray, List.set_cons_zero, List.set_cons_succ]
                rw [if_pos (by rfl)]
                go_simp
                refine hK.out _ _ ⟨_, ⟨s18, s19, s20, s21, s22, s23, s24, s25, s26, s27, s28, s29, s30, s31, s32, s33, s34, s35, s36, s37, s38, s39, s40, s41, s42, s43, s44, s45, s46, s47, s48, s49, s50, s51, s52, s53, .bool true, s55, .agg #[.int .i64 va.k, .string va.n, .string va.d, .string va.t, .bool va.on, .int .i64 va.c, .int .i64 va.r, .int .i64 va.s, .slice va.A va.L va.C], s57, s58, s59, s60, s61, s4, rfl, ?_⟩, ?fr⟩
                case fr => simp only [putAll, List.zip_cons_cons, List.zip_nil_right, List.foldl_cons, List.foldl_nil, List.setIfInBounds_toArray, List.set_cons_zero, List.set_cons_succ]
                exact ⟨HB.out.f0, HB.out.f1, HB.out.f2, HB.out.f3, HB.out.f4, HB.out.f5, HB.out.f6, bq HB.out.f7, bq HB.out.f8, bq2 HB.out.f9, bq HB.out.f10, bq HB.out.f11, bq2 HB.out.f12, bq HB.out.f13, bq HB.out.f14, bq2 HB.out.f15, bq HB.out.f16, bq HB.out.f17, bq HB.out.f18, bq HB.out.f19, bq HB.out.f20, bq HB.out.f21, bq2 HB.out.f22, bq HB.out.f23, bq HB.out.f24, bq2 HB.out.f25, bq HB.out.f26, bq HB.out.f27, bq2 HB.out.f28, bq HB.out.f29, bq HB.out.f30, bq HB.out.f31, bq HB.out.f32, bq HB.out.f33, bq HB.out.f34, bq HB.out.f35, bq2 HB.out.f36, bq HB.out.f37, bq HB.out.f38, bq2 HB.out.f39, bq HB.out.f40, bq HB.out.f41, bq HB.out.f42, bq HB.out.f43, bq HB.out.f44, fun _ => rfl, bq2 HB.out.f46, bq HB.out.f47, bq HB.out.f48, bq HB.out.f49, bq HB.out.f50, bq HB.out.f51⟩
        · replace hge : 39 ≤ i := hgt
          clear hgt
          rcases Nat.lt_or_ge i 42 with hlt | hgt
          · replace hi := hlt
            clear hlt
            rcases Nat.lt_or_ge i 40 with hlt | hgt
            · replace hi := hlt
              clear hlt
              have he : i = 39 := Nat.le_antisymm (Nat.le_of_lt_succ hi) hge
              subst he
              have p37 := hpre 37 (by kernel_rfl)
              have e37 := HB.out.f44 p37
              subst e37
              have p38 := hpre 38 (by kernel_rfl)
              have e38 := HB.out.f45 p38
              subst e38
              have p36 := hpre 36 (by kernel_rfl)
              have e36 := HB.out.f43 p36
              subst e36
              refine step_of ⟨some 57, _, _, _, _, _⟩ rfl (fun K' hK => ?_)
              simp only [putAll, List.zip_cons_cons, List.zip_nil_right, List.foldl_cons, List.foldl_nil, List.setIfInBounds_toArray, List.set_cons_zero, List.set_cons_succ]
              rw [if_pos (by rfl)]
              go_simp
              have hq : Below W.heap.size W (W.alloc (.cells #[.int .i64 va.k, .string va.n, .string va.d, .string va.t, .bool va.on, .int .i64 va.c, .int .i64 va.r, .int .i64 va.s, .slice va.A va.L va.C, .int .i64 va.k, .string va.n, .string va.d, .string va.t, .bool va.on, .int .i64 va.c, .int .i64 va.r, .int .i64 va.s, .slice va.A va.L va.C] 27)) := (Below.refl _ _).alloc (Nat.le_refl _) _
              refine hK.out _ _ ⟨_, ⟨s18, s19, s20, s21, s22, s23, s24, s25, s26, s27, s28, s29, s30, s31, s32, s33, s34, s35, s36, s37, s38, s39, s40, s41, s42, s43, s44, s45, s46, s47, s48, s49, s50, s51, s52, s53, .bool true, .agg #[.int .i64 va.k, .string va.n, .string va.d, .string va.t, .bool va.on, .int .i64 va.c, .int .i64 va.r, .int .i64 va.s, .slice va.A va.L va.C], .agg #[.int .i64 va.k, .string va.n, .string va.d, .string va.t, .bool va.on, .int .i64 va.c, .int .i64 va.r, .int .i64 va.s, .slice va.A va.L va.C], .slice (some ⟨W.heap.size, 0, none⟩) 2 2, s58, s59, s60, s61, s4, rfl, ?_⟩, ?fr⟩
              case fr => simp only [putAll, List.zip_cons_cons, List.zip_nil_right, List.foldl_cons, List.foldl_nil, List.setIfInBounds_toArray, List.set_cons_zero, List.set_cons_succ]
              exact ⟨(HB.out.f0).below hq, (HB.out.f1).trans (hq.mono (HB.out.f1).size), Nat.le_trans (HB.out.f2) hq.size, keep_block (HB.out.f3) hq, keep_block (HB.out.f4) hq, (HB.out.f5).below hq, (HB.out.f6).below hq, bq HB.out.f7, bq HB.out.f8, bq3 hq HB.out.f9, bq HB.out.f10, bq HB.out.f11, bq3 hq HB.out.f12, bq HB.out.f13, bq HB.out.f14, bq3 hq HB.out.f15, bq HB.out.f16, bq HB.out.f17, bq HB.out.f18, bq HB.out.f19, bq HB.out.f20, bq HB.out.f21, bq3 hq HB.out.f22, bq HB.out.f23, bq HB.out.f24, bq3 hq HB.out.f25, bq HB.out.f26, bq HB.out.f27, bq3 hq HB.out.f28, bq HB.out.f29, bq HB.out.f30, bq HB.out.f31, bq HB.out.f32, bq HB.out.f33, bq HB.out.f34, bq HB.out.f35, bq3 hq HB.out.f36, bq HB.out.f37, bq HB.out.f38, bq3 hq HB.out.f39, bq HB.out.f40, bq HB.out.f41, bq HB.out.f42, bq HB.out.f43, bq HB.out.f44, bq HB.out.f45, fun _ _ => ⟨W.heap.size, rfl, heap_alloc_new W _⟩, bq HB.out.f47, bq HB.out.f48, bq HB.out.f49, bq HB.out.f50, bq HB.out.f51⟩
            · replace hge : 40 ≤ i := hgt
              clear hgt
              rcases Nat.lt_or_ge i 41 with hlt | hgt
              · replace hi := hlt
                clear hlt
                have he : i = 40 := Nat.le_antisymm (Nat.le_of_lt_succ hi) hge
                subst he
                have p39 := hpre 39 (by kernel_rfl)
                obtain ⟨G, hG, hGB⟩ := HB.out.f46 p39 (bit_off hun)
                subst hG
                have p36 := hpre 36 (by kernel_rfl)
                have e36 := HB.out.f43 p36
                subst e36
                refine step_of ⟨some 58, _, _, _, _, _⟩ rfl (fun K' hK => ?_)
                simp only [putAll, List.zip_cons_cons, List.zip_nil_right, List.foldl_cons, List.foldl_nil, List.setIfInBounds_toArray, List.set_cons_zero, List.set_cons_succ]
                rw [if_pos (by rfl)]
                go_simp
                go_at_call 10
                (with_reducible refine (K8.out _ G 2 va va ra ra (vals_of_block hGB rfl) (HB.out.f5) (HB.out.f5) HB.out.f0).mono ?_)
                rintro e W2 ⟨rfl, hq⟩
                refine hK.out _ _ ⟨_, ⟨s18, s19, s20, s21, s22, s23, s24, s25, s26, s27, s28, s29, s30, s31, s32, s33, s34, s35, s36, s37, s38, s39, s40, s41, s42, s43, s44, s45, s46, s47, s48, s49, s50, s51, s52, s53, .bool true, s55, s56, .slice (some ⟨G, 0, none⟩) 2 2, .agg #[.int .i64 1, .string (numS z), .string (denS z), .string { data := #[] }, .bool false, .int .i64 0, .int .i64 0, .int .i64 0, .slice none 0 0], s59, s60, s61, s4, rfl, ?_⟩, ?fr⟩
                case fr => simp only [putAll, List.zip_cons_cons, List.zip_nil_right, List.foldl_cons, List.foldl_nil, List.setIfInBounds_toArray, List.set_cons_zero, List.set_cons_succ]
                exact ⟨(HB.out.f0).below hq, (HB.out.f1).trans (hq.mono (HB.out.f1).size), Nat.le_trans (HB.out.f2) hq.size, keep_block (HB.out.f3) hq, keep_block (HB.out.f4) hq, (HB.out.f5).below hq, (HB.out.f6).below hq, bq HB.out.f7, bq HB.out.f8, bq3 hq HB.out.f9, bq HB.out.f10, bq HB.out.f11, bq3 hq HB.out.f12, bq HB.out.f13, bq HB.out.f14, bq3 hq HB.out.f15, bq HB.out.f16, bq HB.out.f17, bq HB.out.f18, bq HB.out.f19, bq HB.out.f20, bq HB.out.f21, bq3 hq HB.out.f22, bq HB.out.f23, bq HB.out.f24, bq3 hq HB.out.f25, bq HB.out.f26, bq HB.out.f27, bq3 hq HB.out.f28, bq HB.out.f29, bq HB.out.f30, bq HB.out.f31, bq HB.out.f32, bq HB.out.f33, bq HB.out.f34, bq HB.out.f35, bq3 hq HB.out.f36, bq HB.out.f37, bq HB.out.f38, bq3 hq HB.out.f39, bq HB.out.f40, bq HB.out.f41, bq HB.out.f42, bq HB.out.f43, bq HB.out.f44, bq HB.out.f45, fun h h2 => absurd (bit_self hun) h2, fun _ => rfl, bq HB.out.f48, bq HB.out.f49, bq HB.out.f50, bq HB.out.f51⟩
              · replace hge : 41 ≤ i := hgt
                clear hgt
                have he : i = 41 := Nat.le_antisymm (Nat.le_of_lt_succ hi) hge
                subst he
                have p36 := hpre 36 (by kernel_rfl)
                have e36 := HB.out.f43 p36
                subst e36
                refine step_of ⟨some 59, _, _, _, _, _⟩ rfl (fun K' hK => ?_)
                simp only [putAll, List.zip_cons_cons, List.zip_nil_right, List.foldl_cons, List.foldl_nil, List.setIfInBounds_toArray, List.set_cons_zero, List.set_cons_succ]
                rw [if_pos (by rfl)]
                go_simp
                go_at_call 11
                (with_reducible refine (T0.out _ HB.out.f0).mono ?_)
                rintro e W2 ⟨rfl, hq⟩
                refine hK.out _ _ ⟨_, ⟨s18, s19, s20, s21, s22, s23, s24, s25, s26, s27, s28, s29, s30, s31, s32, s33, s34, s35, s36, s37, s38, s39, s40, s41, s42, s43, s44, s45, s46, s47, s48, s49, s50, s51, s52, s53, .bool true, s55, s56, s57, s58, .agg #[.int .i64 1, .string (numS z), .string (denS z), .string { data := #[] }, .bool false, .int .i64 0, .int .i64 0, .int .i64 0, .slice none 0 0], s60, s61, s4, rfl, ?_⟩, ?fr⟩
                case fr => simp only [putAll, List.zip_cons_cons, List.zip_nil_right, List.foldl_cons, List.foldl_nil, List.setIfInBounds_toArray, List.set_cons_zero, List.set_cons_succ]
                exact ⟨(HB.out.f0).below hq, (HB.out.f1).trans (hq.mono (HB.out.f1).size), Nat.le_trans (HB.out.f2) hq.size, keep_block (HB.out.f3) hq, keep_block (HB.out.f4) hq, (HB.out.f5).below hq, (HB.out.f6).below hq, bq HB.out.f7, bq HB.out.f8, bq3 hq HB.out.f9, bq HB.out.f10, bq HB.out.f11, bq3 hq HB.out.f12, bq HB.out.f13, bq HB.out.f14, bq3 hq HB.out.f15, bq HB.out.f16, bq HB.out.f17, bq HB.out.f18, bq HB.out.f19, bq HB.out.f20, bq HB.out.f21, bq3 hq HB.out.f22, bq HB.out.f23, bq HB.out.f24, bq3 hq HB.out.f25, bq HB.out.f26, bq HB.out.f27, bq3 hq HB.out.f28, bq HB.out.f29, bq HB.out.f30, bq HB.out.f31, bq HB.out.f32, bq HB.out.f33, bq HB.out.f34, bq HB.out.f35, bq3 hq HB.out.f36, bq HB.out.f37, bq HB.out.f38, bq3 hq HB.out.f39, bq HB.out.f40, bq HB.out.f41, bq HB.out.f42, bq HB.out.f43, bq HB.out.f44, bq HB.out.f45, bq3 hq HB.out.f46, bq HB.out.f47, fun _ => rfl, bq HB.out.f49, bq HB.out.f50, bq HB.out.f51⟩
          · replace hge : 42 ≤ i := hgt
            clear hgt
            rcases Nat.lt_or_ge i 43 with hlt | hgt
            · replace hi := hlt
              clear hlt
              have he : i = 42 := Nat.le_antisymm (Nat.le_of_lt_succ hi) hge
              subst he
              have p40 := hpre 40 (by kernel_rfl)
              have e40 := HB.out.f47 p40
              subst e40
              have p41 := hpre 41 (by kernel_rfl)
              have e41 := HB.out.f48 p41
              subst e41
              have p36 := hpre 36 (by kernel_rfl)
              have e36 := HB.out.f43 p36
              subst e36
              refine step_of ⟨some 60, _, _, _, _, _⟩ rfl (fun K' hK => ?_)
              simp only [putAll, List.zip_cons_cons, List.zip_nil_right, List.foldl_cons, List.foldl_nil, List.setIfInBounds_toArray, List.set_cons_zero, List.set_cons_succ]
              rw [if_pos (by rfl)]
              go_simp
              go_at_call 12
              (with_reducible refine (same_self z _).mono ?_)
              rintro e W2 ⟨rfl, hq⟩
              refine hK.out _ _ ⟨_, ⟨s18, s19, s20, s21, s22, s23, s24, s25, s26, s27, s28, s29, s30, s31, s32, s33, s34, s35, s36, s37, s38, s39, s40, s41, s42, s43, s44, s45, s46, s47, s48, s49, s50, s51, s52, s53, .bool true, s55, s56, s57, .agg #[.int .i64 1, .string (numS z), .string (denS z), .string { data := #[] }, .bool false, .int .i64 0, .int .i64 0, .int .i64 0, .slice none 0 0], .agg #[.int .i64 1, .string (numS z), .string (denS z), .string { data := #[] }, .bool false, .int .i64 0, .int .i64 0, .int .i64 0, .slice none 0 0], .bool true, s61, s4, rfl, ?_⟩, ?fr⟩
              case fr => simp only [putAll, List.zip_cons_cons, List.zip_nil_right, List.foldl_cons, List.foldl_nil, List.setIfInBounds_toArray, List.set_cons_zero, List.set_cons_succ]
              exact ⟨(HB.out.f0).below hq, (HB.out.f1).trans (hq.mono (HB.out.f1).size), Nat.le_trans (HB.out.f2) hq.size, keep_block (HB.out.f3) hq, keep_block (HB.out.f4) hq, (HB.out.f5).below hq, (HB.out.f6).below hq, bq HB.out.f7, bq HB.out.f8, bq3 hq HB.out.f9, bq HB.out.f10, bq HB.out.f11, bq3 hq HB.out.f12, bq HB.out.f13, bq HB.out.f14, bq3 hq HB.out.f15, bq HB.out.f16, bq HB.out.f17, bq HB.out.f18, bq HB.out.f19, bq HB.out.f20, bq HB.out.f21, bq3 hq HB.out.f22, bq HB.out.f23, bq HB.out.f24, bq3 hq HB.out.f25, bq HB.out.f26, bq HB.out.f27, bq3 hq HB.out.f28, bq HB.out.f29, bq HB.out.f30, bq HB.out.f31, bq HB.out.f32, bq HB.out.f33, bq HB.out.f34, bq HB.out.f35, bq3 hq HB.out.f36, bq HB.out.f37, bq HB.out.f38, bq3 hq HB.out.f39, bq HB.out.f40, bq HB.out.f41, bq HB.out.f42, bq HB.out.f43, bq HB.out.f44, bq HB.out.f45, bq3 hq HB.out.f46, bq HB.out.f47, bq HB.out.f48, fun _ => rfl, bq HB.out.f50, bq HB.out.f51⟩
            · replace hge : 43 ≤ i := hgt
              clear hgt
              rcases Nat.lt_or_ge i 44 with hlt | hgt
              · replace hi := hlt
                clear hlt
                have he : i = 43 := Nat.le_antisymm (Nat.le_of_lt_succ hi) hge
                subst he
                have p36 := hpre 36 (by kernel_rfl)
                have e36 := HB.out.f43 p36
                subst e36
                have p42 := hpre 42 (by kernel_rfl)
                have e42 := HB.out.f49 p42
                subst e42
                refine step_of ⟨some 61, _, _, _, _, _⟩ rfl (fun K' hK => ?_)
                simp only [putAll, List.zip_cons_cons, List.zip_nil_right, List.foldl_cons, List.foldl_nil, List.setIfInBounds_toArray, List.set_cons_zero, List.set_cons_succ]
                go_simp
                refine hK.out _ _ ⟨_, ⟨s18, s19, s20, s21, s22, s23, s24, s25, s26, s27, s28, s29, s30, s31, s32, s33, s34, s35, s36, s37, s38, s39, s40, s41, s42, s43, s44, s45, s46, s47, s48, s49, s50, s51, s52, s53, .bool true, s55, s56, s57, s58, s59, .bool true, .bool true, s4, rfl, ?_⟩, ?fr⟩
                case fr => simp only [putAll, List.zip_cons_cons, List.zip_nil_right, List.foldl_cons, List.foldl_nil, List.setIfInBounds_toArray, List.set_cons_zero, List.set_cons_succ]
                exact ⟨HB.out.f0, HB.out.f1, HB.out.f2, HB.out.f3, HB.out.f4, HB.out.f5, HB.out.f6, bq HB.out.f7, bq HB.out.f8, bq2 HB.out.f9, bq HB.out.f10, bq HB.out.f11, bq2 HB.out.f12, bq HB.out.f13, bq HB.out.f14, bq2 HB.out.f15, bq HB.out.f16, bq HB.out.f17, bq HB.out.f18, bq HB.out.f19, bq HB.out.f20, bq HB.out.f21, bq2 HB.out.f22, bq HB.out.f23, bq HB.out.f24, bq2 HB.out.f25, bq HB.out.f26, bq HB.out.f27, bq2 HB.out.f28, bq HB.out.f29, bq HB.out.f30, bq HB.out.f31, bq HB.out.f32, bq HB.out.f33, bq HB.out.f34, bq HB.out.f35, bq2 HB.out.f36, bq HB.out.f37, bq HB.out.f38, bq2 HB.out.f39, bq HB.out.f40, bq HB.out.f41, bq HB.out.f42, bq HB.out.f43, bq HB.out.f44, bq HB.out.f45, bq2 HB.out.f46, bq HB.out.f47, bq HB.out.f48, bq HB.out.f49, fun _ => rfl, bq HB.out.f51⟩
              · replace hge : 44 ≤ i := hgt
                clear hgt
                have he : i = 44 := Nat.le_antisymm (Nat.le_of_lt_succ hi) hge
                subst he
                have p43 := hpre 43 (by kernel_rfl)
                have e43 := HB.out.f50 p43
                subst e43
                refine step_of ⟨some 4, _, _, _, _, _⟩ rfl (fun K' hK => ?_)
                simp only [putAll, List.zip_cons_cons, List.zip_nil_right, List.foldl_cons, List.foldl_nil, List.setIfInBounds_toArray, List.set_cons_zero, List.set_cons_succ]
                go_simp
                refine hK.out _ _ ⟨_, ⟨s18, s19, s20, s21, s22, s23, s24, s25, s26, s27, s28, s29, s30, s31, s32, s33, s34, s35, s36, s37, s38, s39, s40, s41, s42, s43, s44, s45, s46, s47, s48, s49, s50, s51, s52, s53, s54, s55, s56, s57, s58, s59, s60, .bool true, .bool true, rfl, ?_⟩, ?fr⟩
                case fr => simp only [putAll, List.zip_cons_cons, List.zip_nil_right, List.foldl_cons, List.foldl_nil, List.setIfInBounds_toArray, List.set_cons_zero, List.set_cons_succ]
                exact ⟨HB.out.f0, HB.out.f1, HB.out.f2, HB.out.f3, HB.out.f4, HB.out.f5, HB.out.f6, bq HB.out.f7, bq HB.out.f8, bq2 HB.out.f9, bq HB.out.f10, bq HB.out.f11, bq2 HB.out.f12, bq HB.out.f13, bq HB.out.f14, bq2 HB.out.f15, bq HB.out.f16, bq HB.out.f17, bq HB.out.f18, bq HB.out.f19, bq HB.out.f20, bq HB.out.f21, bq2 HB.out.f22, bq HB.out.f23, bq HB.out.f24, bq2 HB.out.f25, bq HB.out.f26, bq HB.out.f27, bq2 HB.out.f28, bq HB.out.f29, bq HB.out.f30, bq HB.out.f31, bq HB.out.f32, bq HB.out.f33, bq HB.out.f34, bq HB.out.f35, bq2 HB.out.f36, bq HB.out.f37, bq HB.out.f38, bq2 HB.out.f39, bq HB.out.f40, bq HB.out.f41, bq HB.out.f42, bq HB.out.f43, bq HB.out.f44, bq HB.out.f45, bq2 HB.out.f46, bq HB.out.f47, bq HB.out.f48, bq HB.out.f49, bq HB.out.f50, fun _ => rfl⟩
  · rintro listed vs WC ⟨s18, s19, s20, s21, s22, s23, s24, s25, s26, s27, s28, s29, s30, s31, s32, s33, s34, s35, s36, s37, s38, s39, s40, s41, s42, s43, s44, s45, s46, s47, s48, s49, s50, s51, s52, s53, s54, s55, s56, s57, s58, s59, s60, s61, s4, rfl, hb⟩ hall
    have e0 := hb.f7 (hall 0 (by show 0 < 45; decide))
    subst e0
    have e1 := hb.f8 (hall 1 (by show 1 < 45; decide))
    subst e1
    have e3 := hb.f10 (hall 3 (by show 3 < 45; decide))
    subst e3
    have e4 := hb.f11 (hall 4 (by show 4 < 45; decide))
    subst e4
    have e6 := hb.f13 (hall 6 (by show 6 < 45; decide))
    subst e6
    have e7 := hb.f14 (hall 7 (by show 7 < 45; decide))
    subst e7
    have e9 := hb.f16 (hall 9 (by show 9 < 45; decide))
    subst e9
    have e10 := hb.f17 (hall 10 (by show 10 < 45; decide))
    subst e10
    have e11 := hb.f18 (hall 11 (by show 11 < 45; decide))
    subst e11
    have e12 := hb.f19 (hall 12 (by show 12 < 45; decide))
    subst e12
    have e13 := hb.f20 (hall 13 (by show 13 < 45; decide))
    subst e13
    have e14 := hb.f21 (hall 14 (by show 14 < 45; decide))
    subst e14
    have e16 := hb.f23 (hall 16 (by show 16 < 45; decide))
    subst e16
    have e17 := hb.f24 (hall 17 (by show 17 < 45; decide))
    subst e17
    have e19 := hb.f26 (hall 19 (by show 19 < 45; decide))
    subst e19
    have e20 := hb.f27 (hall 20 (by show 20 < 45; decide))
    subst e20
    have e22 := hb.f29 (hall 22 (by show 22 < 45; decide))
    subst e22
    have e23 := hb.f30 (hall 23 (by show 23 < 45; decide))
    subst e23
    have e24 := hb.f31 (hall 24 (by show 24 < 45; decide))
    subst e24
    have e25 := hb.f32 (hall 25 (by show 25 < 45; decide))
    subst e25
    have e26 := hb.f33 (hall 26 (by show 26 < 45; decide))
    subst e26
    have e27 := hb.f34 (hall 27 (by show 27 < 45; decide))
    subst e27
    have e28 := hb.f35 (hall 28 (by show 28 < 45; decide))
    subst e28
    have e30 := hb.f37 (hall 30 (by show 30 < 45; decide))
    subst e30
    have e31 := hb.f38 (hall 31 (by show 31 < 45; decide))
    subst e31
    have e33 := hb.f40 (hall 33 (by show 33 < 45; decide))
    subst e33
    have e34 := hb.f41 (hall 34 (by show 34 < 45; decide))
    subst e34
    have e35 := hb.f42 (hall 35 (by show 35 < 45; decide))
    subst e35
    have e36 := hb.f43 (hall 36 (by show 36 < 45; decide))
    subst e36
    have e37 := hb.f44 (hall 37 (by show 37 < 45; decide))
    subst e37
    have e38 := hb.f45 (hall 38 (by show 38 < 45; decide))
    subst e38
    have e40 := hb.f47 (hall 40 (by show 40 < 45; decide))
    subst e40
    have e41 := hb.f48 (hall 41 (by show 41 < 45; decide))
    subst e41
    have e42 := hb.f49 (hall 42 (by show 42 < 45; decide))
    subst e42
    have e43 := hb.f50 (hall 43 (by show 43 < 45; decide))
    subst e43
    have e44 := hb.f51 (hall 44 (by show 44 < 45; decide))
    subst e44
    replace HE := Lib.hid (hb.f0)
    replace HL := Lib.hid (hb.f1)
    replace HX := Lib.hid (hb.f3)
    replace HY := Lib.hid (hb.f4)
    replace PA := Lib.hid (hb.f5)
    replace PB := Lib.hid (hb.f6)
    clear hb hall
    simp only [putAll, List.zip_cons_cons, List.zip_nil_right, List.foldl_cons, List.foldl_nil, List.setIfInBounds_toArray, List.set_cons_zero, List.set_cons_succ]
    go_wp2
    go_ret
    exact ⟨rfl, HL.out⟩
end Go.Proofs.YtcgglmoeneiokaaGreatDoor.Num
