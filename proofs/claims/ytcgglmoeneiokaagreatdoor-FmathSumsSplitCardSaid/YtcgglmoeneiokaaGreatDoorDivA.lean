/- Numbers as texts of digits, fractions, values and the functions of fmath: contracts of the program's functions, joined from smaller texts. Conditions stand at each theorem. -/
import Derived.Test.YtcgglmoeneiokaaGreatDoorNumI
import Derived.Test.YtcgglmoeneiokaaGreatDoorNumH

/- Plain law of FmathDivisors: numbers only. -/
namespace Go.Proofs.YtcgglmoeneiokaaGreatDoor.Num

theorem div_exact (a g : Nat) (hg : 0 < g) (h : g ∣ a) : ((a : Int) : Rat) / ((g : Int) : Rat) = (((a / g : Nat) : Int) : Rat) := by
  obtain ⟨k, rfl⟩ := h
  rw [Nat.mul_div_cancel_left _ hg, Int.natCast_mul, Rat.intCast_mul, Rat.mul_comm]
  have hne : ((g : Int) : Rat) ≠ 0 := by
    intro e
    have : (g : Int) = 0 := by exact_mod_cast e
    omega
  exact Rat.mul_div_cancel hne
theorem mod_exact (a g : Nat) (hg : 0 < g) (h : g ∣ a) : ((a : Int) : Rat) - ((g : Int) : Rat) * (((((a : Int) : Rat) / ((g : Int) : Rat)).floor : Int) : Rat) = 0 := by
  rw [div_exact a g hg h, Rat.floor_intCast]
  obtain ⟨k, rfl⟩ := h
  rw [Nat.mul_div_cancel_left _ hg, Int.natCast_mul, Rat.intCast_mul, Rat.sub_self]
theorem gcd_lcm_mul (a b : Nat) : ((a.gcd b : Int) : Rat) * ((a.lcm b : Int) : Rat) = ((a : Int) : Rat) * ((b : Int) : Rat) := by
  rw [← Rat.intCast_mul, ← Rat.intCast_mul, ← Int.natCast_mul, ← Int.natCast_mul, Nat.gcd_mul_lcm]
end Go.Proofs.YtcgglmoeneiokaaGreatDoor.Num

/- Side facts of FmathDivisors. -/
namespace Go.Proofs.YtcgglmoeneiokaaGreatDoor.Num

theorem side_lcm (a b : Int) (ha : 1 ≤ a ∧ a ≤ 1000000) (hb : 1 ≤ b ∧ b ≤ 1000000) : ∀ k, k ≤ [a, b].length → lcmL ([a, b].take k) ≤ 1000000000000000 := by
  intro k hk
  have h1 : (Nat.lcm 1 a.toNat) = a.toNat := Nat.lcm_one_left _
  have h2 : Nat.lcm a.toNat b.toNat ≤ a.toNat * b.toNat := Nat.div_le_self _ _
  have h3 : a.toNat * b.toNat ≤ 1000000 * 1000000 := Nat.mul_le_mul (by omega) (by omega)
  match k, hk with
  | 0, _ => simp [lcmL]
  | 1, _ => simp only [List.take, lcmL, List.foldl]; rw [h1]; omega
  | 2, _ => simp only [List.take, lcmL, List.foldl]; rw [h1]; omega
  | k + 3, hk => simp at hk
theorem side_prod (a b : Int) (ha : 1 ≤ a ∧ a ≤ 1000000) (hb : 1 ≤ b ∧ b ≤ 1000000) : ∀ k, k ≤ [(a : Rat), (b : Rat)].length → fits (prodL ([(a : Rat), (b : Rat)].take k)) = true := by
  intro k hk
  have h3 : a.natAbs * b.natAbs ≤ 1000000 * 1000000 := Nat.mul_le_mul (by omega) (by omega)
  match k, hk with
  | 0, _ => exact fits_int 1 (by decide)
  | 1, _ => simp only [List.take, prodL, List.foldl]; rw [Rat.one_mul]; exact fits_int a (by omega)
  | 2, _ => simp only [List.take, prodL, List.foldl]; rw [Rat.one_mul, ← Rat.intCast_mul]; exact fits_int _ (by rw [Int.natAbs_mul]; omega)
  | k + 3, hk => simp at hk
end Go.Proofs.YtcgglmoeneiokaaGreatDoor.Num

/- calls of math at a block of two numbers just made. Conditions: the tables lie as they are laid. -/
namespace Go.Proofs.YtcgglmoeneiokaaGreatDoor.Num
open Go.RowKit Go.Lib

theorem block2 (p q : Rat) (W : World) : ValsAt (W.alloc (.cells #[.int .i64 1, .string (numS p), .string (denS p), .string { data := #[] }, .bool false, .int .i64 0, .int .i64 0, .int .i64 0, .slice none 0 0, .int .i64 1, .string (numS q), .string (denS q), .string { data := #[] }, .bool false, .int .i64 0, .int .i64 0, .int .i64 0, .slice none 0 0] 27)) W.heap.size 0 (numVals [p, q]) := vals_of_block (heap_alloc_new W _) rfl
theorem math2 {nm : ByteArray} {p q r : Rat} (T : ∀ (W : World) (B C : Nat), ValsAt W B 0 (numVals [p, q]) → Env W → Calls Tryz.prog 10 #[.string nm, .slice (some ⟨B, 0, none⟩) 2 C] W fun e w' => e = .returned (numVal r) ∧ Below W.heap.size W w') (W : World) (g : Env W) :
    Calls Tryz.prog 10 #[.string nm, .slice (some ⟨W.heap.size, 0, none⟩) 2 2] (W.alloc (.cells #[.int .i64 1, .string (numS p), .string (denS p), .string { data := #[] }, .bool false, .int .i64 0, .int .i64 0, .int .i64 0, .slice none 0 0, .int .i64 1, .string (numS q), .string (denS q), .string { data := #[] }, .bool false, .int .i64 0, .int .i64 0, .int .i64 0, .slice none 0 0] 27)) fun e w' => e = .returned (.agg #[.int .i64 1, .string (numS r), .string (denS r), .string { data := #[] }, .bool false, .int .i64 0, .int .i64 0, .int .i64 0, .slice none 0 0]) ∧ Below W.heap.size W w' := by
  have hb : Below W.heap.size W (W.alloc (.cells #[.int .i64 1, .string (numS p), .string (denS p), .string { data := #[] }, .bool false, .int .i64 0, .int .i64 0, .int .i64 0, .slice none 0 0, .int .i64 1, .string (numS q), .string (denS q), .string { data := #[] }, .bool false, .int .i64 0, .int .i64 0, .int .i64 0, .slice none 0 0] 27)) := (Below.refl _ _).alloc (Nat.le_refl _) _
  refine (T _ _ 2 (block2 p q W) (g.below hb)).mono ?_
  rintro e w' ⟨rfl, h⟩
  exact ⟨by rw [numVal_is], hb.trans (h.mono hb.size)⟩
theorem math2d {nm : ByteArray} {p q r : Rat} (T : ∀ (W : World) (B C : Nat), ValsAt W B 0 (numVals [p, q]) → Env W → Calls Tryz.prog 10 #[.string nm, .slice (some ⟨B, 0, none⟩) 2 C] W fun e w' => e = .returned (numVal r) ∧ Below W.heap.size W w') (W : World) (g : Env W) :
    Calls Tryz.prog 10 #[.string nm, .slice (some ⟨W.heap.size, 0, none⟩) 2 2] (W.alloc (.cells #[.int .i64 1, .string (numS p), .string (denS p), .string { data := #[] }, .bool false, .int .i64 0, .int .i64 0, .int .i64 0, .slice none 0 0, .int .i64 1, .string (numS q), .string (denS q), .string { data := #[] }, .bool false, .int .i64 0, .int .i64 0, .int .i64 0, .slice none 0 0] 27)).drew fun e w' => e = .returned (.agg #[.int .i64 1, .string (numS r), .string (denS r), .string { data := #[] }, .bool false, .int .i64 0, .int .i64 0, .int .i64 0, .slice none 0 0]) ∧ Below W.heap.size W w' := by
  have hb : Below W.heap.size W (W.alloc (.cells #[.int .i64 1, .string (numS p), .string (denS p), .string { data := #[] }, .bool false, .int .i64 0, .int .i64 0, .int .i64 0, .slice none 0 0, .int .i64 1, .string (numS q), .string (denS q), .string { data := #[] }, .bool false, .int .i64 0, .int .i64 0, .int .i64 0, .slice none 0 0] 27)) := (Below.refl _ _).alloc (Nat.le_refl _) _
  have hv : ValsAt (W.alloc (.cells #[.int .i64 1, .string (numS p), .string (denS p), .string { data := #[] }, .bool false, .int .i64 0, .int .i64 0, .int .i64 0, .slice none 0 0, .int .i64 1, .string (numS q), .string (denS q), .string { data := #[] }, .bool false, .int .i64 0, .int .i64 0, .int .i64 0, .slice none 0 0] 27)).drew W.heap.size 0 (numVals [p, q]) := block2 p q W
  refine (T _ _ 2 hv (g.below hb.drew)).mono ?_
  rintro e w' ⟨rfl, h⟩
  exact ⟨by rw [numVal_is], hb.drew.trans (h.mono hb.size)⟩
end Go.Proofs.YtcgglmoeneiokaaGreatDoor.Num

/- The calls of region 5 of FmathDivisors, at g and l. Conditions: the tables lie as they are laid. -/
namespace Go.Proofs.YtcgglmoeneiokaaGreatDoor.Num
open Go.RowKit Go.Lib

theorem gcd_ab (a b : Int) : gcdL [a, b] = a.toNat.gcd b.toNat := by simp [gcdL]
theorem lcm_ab (a b : Int) : lcmL [a, b] = a.toNat.lcm b.toNat := by simp [lcmL, Nat.lcm_one_left]
theorem prod_ab (p q : Rat) : prodL [p, q] = p * q := by simp [prodL, Rat.one_mul]
theorem gl_prod (a b : Int) (ha : 1 ≤ a) (hb : 1 ≤ b) : prodL [((gcdL [a, b] : Nat) : Int), ((lcmL [a, b] : Nat) : Int)] = prodL [(a : Rat), (b : Rat)] := by
  rw [prod_ab, prod_ab, gcd_ab, lcm_ab, gcd_lcm_mul]
  rw [show ((a.toNat : Nat) : Int) = a by omega, show ((b.toNat : Nat) : Int) = b by omega]
theorem g_pos (a b : Int) (ha : 1 ≤ a) : 0 < gcdL [a, b] := by rw [gcd_ab]; exact Nat.gcd_pos_of_pos_left _ (by omega)
theorem g_le (a b : Int) (ha : 1 ≤ a) : ((gcdL [a, b] : Nat) : Int) ≤ a := by
  have := Nat.le_of_dvd (show 0 < a.toNat by omega) (Nat.gcd_dvd_left a.toNat b.toNat)
  rw [gcd_ab]; omega
theorem l_le (a b : Int) (ha : 1 ≤ a ∧ a ≤ 1000000) (hb : 1 ≤ b ∧ b ≤ 1000000) : 1 ≤ lcmL [a, b] ∧ lcmL [a, b] ≤ 1000000000000000 := by
  have := side_lcm a b ha hb 2 (Nat.le_refl _)
  refine ⟨?_, this⟩
  rw [lcm_ab]; exact Nat.lcm_pos (by omega) (by omega)
/-- MOD where the divisor divides -/
theorem mod_zero (a g : Nat) (hg : 0 < g) (h : g ∣ a) (ha : a ≤ 1000000000000000) (hg9 : g ≤ 1000000000000000) (W : World) (B C : Nat) (hv : ValsAt W B 0 (numVals [((a : Int) : Rat), ((g : Int) : Rat)])) (hE : Env W) :
    Calls Tryz.prog 10 #[.string { data := #[77, 79, 68] }, .slice (some ⟨B, 0, none⟩) 2 C] W fun e w' => e = .returned (numVal ((0 : Int) : Rat)) ∧ Below W.heap.size W w' := by
  have hd := div_exact a g hg h
  have hm := mod_exact a g hg h
  have hle : a / g ≤ a := Nat.div_le_self _ _
  have hga : ((g : Int) : Rat) * ((((a / g : Nat) : Int)) : Rat) = ((a : Int) : Rat) := by
    rw [← Rat.intCast_mul, ← Int.natCast_mul, Nat.mul_div_cancel' h]
  have hne : ((g : Int) : Rat) ≠ 0 := by
    intro e
    have : (g : Int) = 0 := by exact_mod_cast e
    omega
  have fa : fits ((a : Int) : Rat) = true := fits_int _ (by omega)
  have fg : fits ((g : Int) : Rat) = true := fits_int _ (by omega)
  have fk : fits ((((a / g : Nat) : Int)) : Rat) = true := fits_int _ (by rw [Int.natAbs_natCast]; omega)
  have T := m_MOD ((a : Int) : Rat) ((g : Int) : Rat) B 0 C W fa fg hne (by rw [hd]; exact fk) (by rw [hd, Rat.floor_intCast]; exact fk) (by rw [hd, Rat.floor_intCast, hga]; exact fa) (by rw [hm]; exact fits_int 0 (by decide)) hv hE
  rw [hm] at T
  exact T
end Go.Proofs.YtcgglmoeneiokaaGreatDoor.Num

/- The calls of region 5 of FmathDivisors, at the pair of g and l. Conditions: the tables lie as they are laid. -/
namespace Go.Proofs.YtcgglmoeneiokaaGreatDoor.Num
open Go.RowKit Go.Lib

theorem gl_any (a b : Int) (B C : Nat) (W : World) (ha : 1 ≤ a ∧ a ≤ 1000000) (hb : 1 ≤ b ∧ b ≤ 1000000) (hv : ValsAt W B 0 (numVals [((gcdL [a, b] : Nat) : Int), ((lcmL [a, b] : Nat) : Int)])) (hE : Env W) :
    Calls Tryz.prog 10 #[.string { data := #[80, 82, 79, 68, 85, 67, 84] }, .slice (some ⟨B, 0, none⟩) 2 C] W fun e w' => e = .returned (numVal (prodL [(a : Rat), (b : Rat)])) ∧ Below W.heap.size W w' := by
  obtain ⟨hl1, hl2⟩ := l_le a b ha hb
  have hg1 := g_pos a b ha.1
  have hg2 := g_le a b ha.1
  have fG : fits (((gcdL [a, b] : Nat) : Int) : Rat) = true := fits_int _ (by omega)
  have fM : fits (((lcmL [a, b] : Nat) : Int) : Rat) = true := fits_int _ (by omega)
  have e := gl_prod a b ha.1 hb.1
  rw [← e]
  refine m_PRODUCT [(((gcdL [a, b] : Nat) : Int) : Rat), (((lcmL [a, b] : Nat) : Int) : Rat)] B 0 C W (by simp) (by simp) ?_ ?_ hv hE
  · intro q hq
    simp only [List.mem_cons, List.not_mem_nil, or_false] at hq
    rcases hq with rfl | rfl
    · exact fG
    · exact fM
  · intro k hk
    match k, hk with
    | 0, _ => exact fits_int 1 (by decide)
    | 1, _ => simp only [List.take, prodL, List.foldl]; rw [Rat.one_mul]; exact fG
    | 2, _ =>
      have := side_prod a b ha hb 2 (by simp)
      simp only [List.take] at this ⊢
      rw [e]; exact this
    | k + 3, hk => simp at hk
theorem mod_a (a b : Int) (B C : Nat) (W : World) (ha : 1 ≤ a ∧ a ≤ 1000000) (_ : 1 ≤ b ∧ b ≤ 1000000) (hv : ValsAt W B 0 (numVals [(a : Rat), ((gcdL [a, b] : Nat) : Int)])) (hE : Env W) :
    Calls Tryz.prog 10 #[.string { data := #[77, 79, 68] }, .slice (some ⟨B, 0, none⟩) 2 C] W fun e w' => e = .returned (numVal ((0 : Int) : Rat)) ∧ Below W.heap.size W w' := by
  have hg1 := g_pos a b ha.1
  have hg2 := g_le a b ha.1
  have ea : ((a.toNat : Nat) : Int) = a := by omega
  have T := mod_zero a.toNat (gcdL [a, b]) hg1 (by rw [gcd_ab]; exact Nat.gcd_dvd_left _ _) (by omega) (by omega) W B C (by rw [ea]; exact hv) hE
  exact T
theorem mod_b (a b : Int) (B C : Nat) (W : World) (ha : 1 ≤ a ∧ a ≤ 1000000) (hb : 1 ≤ b ∧ b ≤ 1000000) (hv : ValsAt W B 0 (numVals [((lcmL [a, b] : Nat) : Int), (b : Rat)])) (hE : Env W) :
    Calls Tryz.prog 10 #[.string { data := #[77, 79, 68] }, .slice (some ⟨B, 0, none⟩) 2 C] W fun e w' => e = .returned (numVal ((0 : Int) : Rat)) ∧ Below W.heap.size W w' := by
  obtain ⟨hl1, hl2⟩ := l_le a b ha hb
  have eb : ((b.toNat : Nat) : Int) = b := by omega
  have T := mod_zero (lcmL [a, b]) b.toNat (by omega) (by rw [lcm_ab]; exact Nat.dvd_lcm_right _ _) (by omega) (by omega) W B C (by rw [eb]; exact hv) hE
  exact T
theorem gcd_g (a b : Int) (B C : Nat) (W : World) (ha : 1 ≤ a ∧ a ≤ 1000000) (_ : 1 ≤ b ∧ b ≤ 1000000) (hv : ValsAt W B 0 (numVals [((gcdL [a, b] : Nat) : Int), (a : Rat)])) (hE : Env W) :
    Calls Tryz.prog 10 #[.string { data := #[71, 67, 68] }, .slice (some ⟨B, 0, none⟩) 2 C] W fun e w' => e = .returned (numVal (((gcdL [a, b] : Nat) : Int) : Rat)) ∧ Below W.heap.size W w' := by
  have hg1 := g_pos a b ha.1
  have hg2 := g_le a b ha.1
  have e : gcdL [((gcdL [a, b] : Nat) : Int), a] = gcdL [a, b] := by
    rw [gcd_ab, Int.toNat_natCast, gcd_ab, Nat.gcd_comm (a.toNat.gcd b.toNat)]
    exact Nat.gcd_eq_right (Nat.gcd_dvd_left _ _)
  have T := m_GCD [((gcdL [a, b] : Nat) : Int), a] [(((gcdL [a, b] : Nat) : Int) : Rat), (a : Rat)] B 0 C W rfl (by simp) (by simp) (fun n hn => by
    simp only [List.mem_cons, List.not_mem_nil, or_false] at hn
    rcases hn with rfl | rfl <;> omega) hv hE
  rw [e] at T
  exact T
theorem same_self (p : Rat) (W : World) : Calls Tryz.prog 12 #[.agg #[.int .i64 1, .string (numS p), .string (denS p), .string { data := #[] }, .bool false, .int .i64 0, .int .i64 0, .int .i64 0, .slice none 0 0], .agg #[.int .i64 1, .string (numS p), .string (denS p), .string { data := #[] }, .bool false, .int .i64 0, .int .i64 0, .int .i64 0, .slice none 0 0]] W fun e w' => e = .returned (.bool true) ∧ Below W.heap.size W w' := by
  refine (same_num p p W).mono ?_
  rintro e w' ⟨rfl, h⟩
  exact ⟨by rw [decide_eq_true rfl], h⟩
theorem four9 {W : World} {a b c d : Nat} {p q r s : Rat} {T U X Y : TypeId} (h : W.heap[a]? = some (.cells #[.int .i64 1, .string (numS p), .string (denS p), .string { data := #[] }, .bool false, .int .i64 0, .int .i64 0, .int .i64 0, .slice none 0 0] T (0, 0))) (k : W.heap[b]? = some (.cells #[.int .i64 1, .string (numS q), .string (denS q), .string { data := #[] }, .bool false, .int .i64 0, .int .i64 0, .int .i64 0, .slice none 0 0] U (0, 0))) (m : W.heap[c]? = some (.cells #[.int .i64 1, .string (numS r), .string (denS r), .string { data := #[] }, .bool false, .int .i64 0, .int .i64 0, .int .i64 0, .slice none 0 0] X (0, 0))) (n : W.heap[d]? = some (.cells #[.int .i64 1, .string (numS s), .string (denS s), .string { data := #[] }, .bool false, .int .i64 0, .int .i64 0, .int .i64 0, .slice none 0 0] Y (0, 0))) :
    (W.cell? ⟨a, 0, none⟩ = some (.int .i64 1) ∧ W.cell? ⟨a, 1, none⟩ = some (.string (numS p)) ∧ W.cell? ⟨a, 2, none⟩ = some (.string (denS p)) ∧ W.cell? ⟨a, 3, none⟩ = some (.string { data := #[] }) ∧ W.cell? ⟨a, 4, none⟩ = some (.bool false) ∧ W.cell? ⟨a, 5, none⟩ = some (.int .i64 0) ∧ W.cell? ⟨a, 6, none⟩ = some (.int .i64 0) ∧ W.cell? ⟨a, 7, none⟩ = some (.int .i64 0) ∧ W.cell? ⟨a, 8, none⟩ = some (.slice none 0 0)) ∧ (W.cell? ⟨b, 0, none⟩ = some (.int .i64 1) ∧ W.cell? ⟨b, 1, none⟩ = some (.string (numS q)) ∧ W.cell? ⟨b, 2, none⟩ = some (.string (denS q)) ∧ W.cell? ⟨b, 3, none⟩ = some (.string { data := #[] }) ∧ W.cell? ⟨b, 4, none⟩ = some (.bool false) ∧ W.cell? ⟨b, 5, none⟩ = some (.int .i64 0) ∧ W.cell? ⟨b, 6, none⟩ = some (.int .i64 0) ∧ W.cell? ⟨b, 7, none⟩ = some (.int .i64 0) ∧ W.cell? ⟨b, 8, none⟩ = some (.slice none 0 0)) ∧ (W.cell? ⟨c, 0, none⟩ = some (.int .i64 1) ∧ W.cell? ⟨c, 1, none⟩ = some (.string (numS r)) ∧ W.cell? ⟨c, 2, none⟩ = some (.string (denS r)) ∧ W.cell? ⟨c, 3, none⟩ = some (.string { data := #[] }) ∧ W.cell? ⟨c, 4, none⟩ = some (.bool false) ∧ W.cell? ⟨c, 5, none⟩ = some (.int .i64 0) ∧ W.cell? ⟨c, 6, none⟩ = some (.int .i64 0) ∧ W.cell? ⟨c, 7, none⟩ = some (.int .i64 0) ∧ W.cell? ⟨c, 8, none⟩ = some (.slice none 0 0)) ∧ (W.cell? ⟨d, 0, none⟩ = some (.int .i64 1) ∧ W.cell? ⟨d, 1, none⟩ = some (.string (numS s)) ∧ W.cell? ⟨d, 2, none⟩ = some (.string (denS s)) ∧ W.cell? ⟨d, 3, none⟩ = some (.string { data := #[] }) ∧ W.cell? ⟨d, 4, none⟩ = some (.bool false) ∧ W.cell? ⟨d, 5, none⟩ = some (.int .i64 0) ∧ W.cell? ⟨d, 6, none⟩ = some (.int .i64 0) ∧ W.cell? ⟨d, 7, none⟩ = some (.int .i64 0) ∧ W.cell? ⟨d, 8, none⟩ = some (.slice none 0 0)) :=
  ⟨(nine_at h).1, (nine_at k).1, (nine_at m).1, (nine_at n).1⟩
end Go.Proofs.YtcgglmoeneiokaaGreatDoor.Num
