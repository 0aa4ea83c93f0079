/- Numbers as texts of digits, fractions, values and the functions of fmath: contracts of the program's functions, joined from smaller texts. Conditions stand at each theorem. -/
import Derived.Test.YtcgglmoeneiokaaGreatDoorNumI
import Derived.Test.YtcgglmoeneiokaaGreatDoorNumH

/- Plain law of FmathDivisors: numbers only. -/
namespace Go.Proofs.YtcgglmoeneiokaaGreatDoor.Num

theorem div_exact (a g : Nat) (hg : 0 < g) (h : g ∣ a) : ((a : Int) : Rat) / ((g : Int) : Rat) = (((a / g : Nat) : Int) : Rat) := by
  obtain ⟨k, rfl⟩ := h
  rw [Nat.mul_div_cancel_left _ hg, Int.natCast_mul, Rat.intCast_mul, Rat.mul_comm]
  have hne : ((g : Int) : Rat) ≠ 0 := by
    intro e
    have : (g : Int) = 0 := by exact_mod_cast e
    omega
  exact Rat.mul_div_cancel hne
theorem mod_exact (a g : Nat) (hg : 0 < g) (h : g ∣ a) : ((a : Int) : Rat) - ((g : Int) : Rat) * (((((a : Int) : Rat) / ((g : Int) : Rat)).floor : Int) : Rat) = 0 := by
  rw [div_exact a g hg h, Rat.floor_intCast]
  obtain ⟨k, rfl⟩ := h
  rw [Nat.mul_div_cancel_left _ hg, Int.natCast_mul, Rat.intCast_mul, Rat.sub_self]
theorem gcd_lcm_mul (a b : Nat) : ((a.gcd b : Int) : Rat) * ((a.lcm b : Int) : Rat) = ((a : Int) : Rat) * ((b : Int) : Rat) := by
  rw [← Rat.intCast_mul, ← Rat.intCast_mul, ← Int.natCast_mul, ← Int.natCast_mul, Nat.gcd_mul_lcm]
end Go.Proofs.YtcgglmoeneiokaaGreatDoor.Num

/- Side facts of FmathDivisors. -/
namespace Go.Proofs.YtcgglmoeneiokaaGreatDoor.Num

theorem side_lcm (a b : Int) (ha : 1 ≤ a ∧ a ≤ 1000000) (hb : 1 ≤ b ∧ b ≤ 1000000) : ∀ k, k ≤ [a, b].length → lcmL ([a, b].take k) ≤ 1000000000000000 := by
  intro k hk
  have h1 : (Nat.lcm 1 a.toNat) = a.toNat := Nat.lcm_one_left _
  have h2 : Nat.lcm a.toNat b.toNat ≤ a.toNat * b.toNat := Nat.div_le_self _ _
  have h3 : a.toNat * b.toNat ≤ 1000000 * 1000000 := Nat.mul_le_mul (by omega) (by omega)
  match k, hk with
  | 0, _ => simp [lcmL]
  | 1, _ => simp only [List.take, lcmL, List.foldl]; rw [h1]; omega
  | 2, _ => simp only [List.take, lcmL, List.foldl]; rw [h1]; omega
  | k + 3, hk => simp at hk
theorem side_prod (a b : Int) (ha : 1 ≤ a ∧ a ≤ 1000000) (hb : 1 ≤ b ∧ b ≤ 1000000) : ∀ k, k ≤ [(a : Rat), (b : Rat)].length → fits (prodL ([(a : Rat), (b : Rat)].take k)) = true := by
  intro k hk
  have h3 : a.natAbs * b.natAbs ≤ 1000000 * 1000000 := Nat.mul_le_mul (by omega) (by omega)
  match k, hk with
  | 0, _ => exact fits_int 1 (by decide)
  | 1, _ => simp only [List.take, prodL, List.foldl]; rw [Rat.one_mul]; exact fits_int a (by omega)
  | 2, _ => simp only [List.take, prodL, List.foldl]; rw [Rat.one_mul, ← Rat.intCast_mul]; exact fits_int _ (by rw [Int.natAbs_mul]; omega)
  | k + 3, hk => simp at hk
end Go.Proofs.YtcgglmoeneiokaaGreatDoor.Num

/- calls of math at a block of two numbers just made. Conditions: the tables lie as they are laid. -/
namespace Go.Proofs.YtcgglmoeneiokaaGreatDoor.Num
open Go.RowKit Go.Lib

theorem block2 (p q : Rat) (W : World) : ValsAt (W.alloc (.cells #[.int .i64 1, .string (numS p), .string (denS p), .string { data := #[] }, .bool false, .int .i64 0, .int .i64 0, .int .i64 0, .slice none 0 0, .int .i64 1, .string (numS q), .string (denS q), .string { data := #[] }, .bool false, .int .i64 0, .int .i64 0, .int .i64 0, .slice none 0 0] 27)) W.heap.size 0 (numVals [p, q]) := vals_of_block (heap_alloc_new W _) rfl
theorem math2 {nm : ByteArray} {p q r : Rat} (T : ∀ (W : World) (B C : Nat), ValsAt W B 0 (numVals [p, q]) → Env W → Calls Tryz.prog 10 #[.string nm, .slice (some ⟨B, 0, none⟩) 2 C] W fun e w' => e = .returned (numVal r) ∧ Below W.heap.size W w') (W : World) (g : Env W) :
    Calls Tryz.prog 10 #[.string nm, .slice (some ⟨W.heap.size, 0, none⟩) 2 2] (W.alloc (.cells #[.int .i64 1, .string (numS p), .string (denS p), .string { data := #[] }, .bool false, .int .i64 0, .int .i64 0, .int .i64 0, .slice none 0 0, .int .i64 1, .string (numS q), .string (denS q), .string { data := #[] }, .bool false, .int .i64 0, .int .i64 0, .int .i64 0, .slice none 0 0] 27)) fun e w' => e = .returned (.agg #[.int .i64 1, .string (numS r), .string (denS r), .string { data := #[] }, .bool false, .int .i64 0, .int .i64 0, .int .i64 0, .slice none 0 0]) ∧ Below W.heap.size W w' := by
  have hb : Below W.heap.size W (W.alloc (.cells #[.int .i64 1, .string (numS p), .string (denS p), .string { data := #[] }, .bool false, .int .i64 0, .int .i64 0, .int .i64 0, .slice none 0 0, .int .i64 1, .string (numS q), .string (denS q), .string { data := #[] }, .bool false, .int .i64 0, .int .i64 0, .int .i64 0, .slice none 0 0] 27)) := (Below.refl _ _).alloc (Nat.le_refl _) _
  refine (T _ _ 2 (block2 p q W) (g.below hb)).mono ?_
  rintro e w' ⟨rfl, h⟩
  exact ⟨by rw [numVal_is], hb.trans (h.mono hb.size)⟩
theorem math2d {nm : ByteArray} {p q r : Rat} (T : ∀ (W : World) (B C : Nat), ValsAt W B 0 (numVals [p, q]) → Env W → Calls Tryz.prog 10 #[.string nm, .slice (some ⟨B, 0, none⟩) 2 C] W fun e w' => e = .returned (numVal r) ∧ Below W.heap.size W w') (W : World) (g : Env W) :
    Calls Tryz.prog 10 #[.string nm, .slice (some ⟨W.heap.size, 0, none⟩) 2 2] (W.alloc (.cells #[.int .i64 1, .string (numS p), .string (denS p), .string { data := #[] }, .bool false, .int .i64 0, .int .i64 0, .int .i64 0, .slice none 0 0, .int .i64 1, .string (numS q), .string (denS q), .string { data := #[] }, .bool false, .int .i64 0, .int .i64 0, .int .i64 0, .slice none 0 0] 27)).drew fun e w' => e = .returned (.agg #[.int .i64 1, .string (numS r), .string (denS r), .string { data := #[] }, .bool false, .int .i64 0, .int .i64 0, .int .i64 0, .slice none 0 0]) ∧ Below W.heap.size W w' := by
  have hb : Below W.heap.size W (W.alloc (.cells #[.int .i64 1, .string (numS p), .string (denS p), .string { data := #[] }, .bool false, .int .i64 0, .int .i64 0, .int .i64 0, .slice none 0 0, .int .i64 1, .string (numS q), .string (denS q), .string { data := #[] }, .bool false, .int .i64 0, .int .i64 0, .int .i64 0, .slice none 0 0] 27)) := (Below.refl _ _).alloc (Nat.le_refl _) _
  have hv : ValsAt (W.alloc (.cells #[.int .i64 1, .string (numS p), .string (denS p), .string { data := #[] }, .bool false, .int .i64 0, .int .i64 0, .int .i64 0, .slice none 0 0, .int .i64 1, .string (numS q), .string (denS q), .string { data := #[] }, .bool false, .int .i64 0, .int .i64 0, .int .i64 0, .slice none 0 0] 27)).drew W.heap.size 0 (numVals [p, q]) := block2 p q W
  refine (T _ _ 2 hv (g.below hb.drew)).mono ?_
  rintro e w' ⟨rfl, h⟩
  exact ⟨by rw [numVal_is], hb.drew.trans (h.mono hb.size)⟩
end Go.Proofs.YtcgglmoeneiokaaGreatDoor.Num

/- The calls of region 5 of FmathDivisors, at g and l. Conditions: the tables lie as they are laid. -/
namespace Go.Proofs.YtcgglmoeneiokaaGreatDoor.Num
open Go.RowKit Go.Lib

theorem gcd_ab (a b : Int) : gcdL [a, b] = a.toNat.gcd b.toNat := by simp [gcdL]
theorem lcm_ab (a b : Int) : lcmL [a, b] = a.toNat.lcm b.toNat := by simp [lcmL, Nat.lcm_one_left]
theorem prod_ab (p q : Rat) : prodL [p, q] = p * q := by simp [prodL, Rat.one_mul]
theorem gl_prod (a b : Int) (ha : 1 ≤ a) (hb : 1 ≤ b) : prodL [((gcdL [a, b] : Nat) : Int), ((lcmL [a, b] : Nat) : Int)] = prodL [(a : Rat), (b : Rat)] := by
  rw [prod_ab, prod_ab, gcd_ab, lcm_ab, gcd_lcm_mul]
  rw [show ((a.toNat : Nat) : Int) = a by omega, show ((b.toNat : Nat) : Int) = b by omega]
theorem g_pos (a b : Int) (ha : 1 ≤ a) : 0 < gcdL [a, b] := by rw [gcd_ab]; exact Nat.gcd_pos_of_pos_left _ (by omega)
theorem g_le (a b : Int) (ha : 1 ≤ a) : ((gcdL [a, b] : Nat) : Int) ≤ a := by
  have := Nat.le_of_dvd (show 0 < a.toNat by omega) (Nat.gcd_dvd_left a.toNat b.toNat)
  rw [gcd_ab]; omega
theorem l_le (a b : Int) (ha : 1 ≤ a ∧ a ≤ 1000000) (hb : 1 ≤ b ∧ b ≤ 1000000) : 1 ≤ lcmL [a, b] ∧ lcmL [a, b] ≤ 1000000000000000 := by
  have := side_lcm a b ha hb 2 (Nat.le_refl _)
  refine ⟨?_, this⟩
  rw [lcm_ab]; exact Nat.lcm_pos (by omega) (by omega)
/-- MOD where the divisor divides -/
theorem mod_zero (a g : Nat) (hg : 0 < g) (h : g ∣ a) (ha : a ≤ 1000000000000000) (hg9 : g ≤ 1000000000000000) (W : World) (B C : Nat) (hv : ValsAt W B 0 (numVals [((a : Int) : Rat), ((g : Int) : Rat)])) (hE : Env W) :
    Calls Tryz.prog 10 #[.string { data := #[77, 79, 68] }, .slice (some ⟨B, 0, none⟩) 2 C] W fun e w' => e = .returned (numVal ((0 : Int) : Rat)) ∧ Below W.heap.size W w' := by
  have hd := div_exact a g hg h
  have hm := mod_exact a g hg h
  have hle : a / g ≤ a := Nat.div_le_self _ _
  have hga : ((g : Int) : Rat) * ((((a / g : Nat) : Int)) : Rat) = ((a : Int) : Rat) := by
    rw [← Rat.intCast_mul, ← Int.natCast_mul, Nat.mul_div_cancel' h]
  have hne : ((g : Int) : Rat) ≠ 0 := by
    intro e
    have : (g : Int) = 0 := by exact_mod_cast e
    omega
  have fa : fits ((a : Int) : Rat) = true := fits_int _ (by omega)
  have fg : fits ((g : Int) : Rat) = true := fits_int _ (by omega)
  have fk : fits ((((a / g : Nat) : Int)) : Rat) = true := fits_int _ (by rw [Int.natAbs_natCast]; omega)
  have T := m_MOD ((a : Int) : Rat) ((g : Int) : Rat) B 0 C W fa fg hne (by rw [hd]; exact fk) (by rw [hd, Rat.floor_intCast]; exact fk) (by rw [hd, Rat.floor_intCast, hga]; exact fa) (by rw [hm]; exact fits_int 0 (by decide)) hv hE
  rw [hm] at T
  exact T
end Go.Proofs.YtcgglmoeneiokaaGreatDoor.Num

/- The calls of region 5 of FmathDivisors, at the pair of g and l. Conditions: the tables lie as they are laid. -/
namespace Go.Proofs.YtcgglmoeneiokaaGreatDoor.Num
open Go.RowKit Go.Lib

theorem gl_any (a b : Int) (B C : Nat) (W : World) (ha : 1 ≤ a ∧ a ≤ 1000000) (hb : 1 ≤ b ∧ b ≤ 1000000) (hv : ValsAt W B 0 (numVals [((gcdL [a, b] : Nat) : Int), ((lcmL [a, b] : Nat) : Int)])) (hE : Env W) :
    Calls Tryz.prog 10 #[.string { data := #[80, 82, 79, 68, 85, 67, 84] }, .slice (some ⟨B, 0, none⟩) 2 C] W fun e w' => e = .returned (numVal (prodL [(a : Rat), (b : Rat)])) ∧ Below W.heap.size W w' := by
  obtain ⟨hl1, hl2⟩ := l_le a b ha hb
  have hg1 := g_pos a b ha.1
  have hg2 := g_le a b ha.1
  have fG : fits (((gcdL [a, b] : Nat) : Int) : Rat) = true := fits_int _ (by omega)
  have fM : fits (((lcmL [a, b] : Nat) : Int) : Rat) = true := fits_int _ (by omega)
  have e := gl_prod a b ha.1 hb.1
  rw [← e]
  refine m_PRODUCT [(((gcdL [a, b] : Nat) : Int) : Rat), (((lcmL [a, b] : Nat) : Int) : Rat)] B 0 C W (by simp) (by simp) ?_ ?_ hv hE
  · intro q hq
    simp only [List.mem_cons, List.not_mem_nil, or_false] at hq
    rcases hq with rfl | rfl
    · exact fG
    · exact fM
  · intro k hk
    match k, hk with
    | 0, _ => exact fits_int 1 (by decide)
    | 1, _ => simp only [List.take, prodL, List.foldl]; rw [Rat.one_mul]; exact fG
    | 2, _ =>
      have := side_prod a b ha hb 2 (by simp)
      simp only [List.take] at this ⊢
      rw [e]; exact this
    | k + 3, hk => simp at hk
theorem mod_a (a b : Int) (B C : Nat) (W : World) (ha : 1 ≤ a ∧ a ≤ 1000000) (hb : 1 ≤ b ∧ b ≤ 1000000) (hv : ValsAt W B 0 (numVals [(a : Rat), ((gcdL [a, b] : Nat) : Int)])) (hE : Env W) :
    Calls Tryz.prog 10 #[.string { data := #[77, 79, 68] }, .slice (some ⟨B, 0, none⟩) 2 C] W fun e w' => e = .returned (numVal ((0 : Int) : Rat)) ∧ Below W.heap.size W w' := by
  have hg1 := g_pos a b ha.1
  have hg2 := g_le a b ha.1
  have ea : ((a.toNat : Nat) : Int) = a := by omega
  have T := mod_zero a.toNat (gcdL [a, b]) hg1 (by rw [gcd_ab]; exact Nat.gcd_dvd_left _ _) (by omega) (by omega) W B C (by rw [ea]; exact hv) hE
  exact T
theorem mod_b (a b : Int) (B C : Nat) (W : World) (ha : 1 ≤ a ∧ a ≤ 1000000) (hb : 1 ≤ b ∧ b ≤ 1000000) (hv : ValsAt W B 0 (numVals [((lcmL [a, b] : Nat) : Int), (b : Rat)])) (hE : Env W) :
    Calls Tryz.prog 10 #[.string { data := #[77, 79, 68] }, .slice (some ⟨B, 0, none⟩) 2 C] W fun e w' => e = .returned (numVal ((0 : Int) : Rat)) ∧ Below W.heap.size W w' := by
  obtain ⟨hl1, hl2⟩ := l_le a b ha hb
  have eb : ((b.toNat : Nat) : Int) = b := by omega
  have T := mod_zero (lcmL [a, b]) b.toNat (by omega) (by rw [lcm_ab]; exact Nat.dvd_lcm_right _ _) (by omega) (by omega) W B C (by rw [eb]; exact hv) hE
  exact T
theorem gcd_g (a b : Int) (B C : Nat) (W : World) (ha : 1 ≤ a ∧ a ≤ 1000000) (hb : 1 ≤ b ∧ b ≤ 1000000) (hv : ValsAt W B 0 (numVals [((gcdL [a, b] : Nat) : Int), (a : Rat)])) (hE : Env W) :
    Calls Tryz.prog 10 #[.string { data := #[71, 67, 68] }, .slice (some ⟨B, 0, none⟩) 2 C] W fun e w' => e = .returned (numVal (((gcdL [a, b] : Nat) : Int) : Rat)) ∧ Below W.heap.size W w' := by
  have hg1 := g_pos a b ha.1
  have hg2 := g_le a b ha.1
  have e : gcdL [((gcdL [a, b] : Nat) : Int), a] = gcdL [a, b] := by
    rw [gcd_ab, Int.toNat_natCast, gcd_ab, Nat.gcd_comm (a.toNat.gcd b.toNat)]
    exact Nat.gcd_eq_right (Nat.gcd_dvd_left _ _)
  have T := m_GCD [((gcdL [a, b] : Nat) : Int), a] [(((gcdL [a, b] : Nat) : Int) : Rat), (a : Rat)] B 0 C W rfl (by simp) (by simp) (fun n hn => by
    simp only [List.mem_cons, List.not_mem_nil, or_false] at hn
    rcases hn with rfl | rfl <;> omega) hv hE
  rw [e] at T
  exact T
theorem same_self (p : Rat) (W : World) : Calls Tryz.prog 12 #[.agg #[.int .i64 1, .string (numS p), .string (denS p), .string { data := #[] }, .bool false, .int .i64 0, .int .i64 0, .int .i64 0, .slice none 0 0], .agg #[.int .i64 1, .string (numS p), .string (denS p), .string { data := #[] }, .bool false, .int .i64 0, .int .i64 0, .int .i64 0, .slice none 0 0]] W fun e w' => e = .returned (.bool true) ∧ Below W.heap.size W w' := by
  refine (same_num p p W).mono ?_
  rintro e w' ⟨rfl, h⟩
  exact ⟨by rw [decide_eq_true rfl], h⟩
theorem four9 {W : World} {a b c d : Nat} {p q r s : Rat} {T U X Y : TypeId} (h : W.heap[a]? = some (.cells #[.int .i64 1, .string (numS p), .string (denS p), .string { data := #[] }, .bool false, .int .i64 0, .int .i64 0, .int .i64 0, .slice none 0 0] T (0, 0))) (k : W.heap[b]? = some (.cells #[.int .i64 1, .string (numS q), .string (denS q), .string { data := #[] }, .bool false, .int .i64 0, .int .i64 0, .int .i64 0, .slice none 0 0] U (0, 0))) (m : W.heap[c]? = some (.cells #[.int .i64 1, .string (numS r), .string (denS r), .string { data := #[] }, .bool false, .int .i64 0, .int .i64 0, .int .i64 0, .slice none 0 0] X (0, 0))) (n : W.heap[d]? = some (.cells #[.int .i64 1, .string (numS s), .string (denS s), .string { data := #[] }, .bool false, .int .i64 0, .int .i64 0, .int .i64 0, .slice none 0 0] Y (0, 0))) :
    (W.cell? ⟨a, 0, none⟩ = some (.int .i64 1) ∧ W.cell? ⟨a, 1, none⟩ = some (.string (numS p)) ∧ W.cell? ⟨a, 2, none⟩ = some (.string (denS p)) ∧ W.cell? ⟨a, 3, none⟩ = some (.string { data := #[] }) ∧ W.cell? ⟨a, 4, none⟩ = some (.bool false) ∧ W.cell? ⟨a, 5, none⟩ = some (.int .i64 0) ∧ W.cell? ⟨a, 6, none⟩ = some (.int .i64 0) ∧ W.cell? ⟨a, 7, none⟩ = some (.int .i64 0) ∧ W.cell? ⟨a, 8, none⟩ = some (.slice none 0 0)) ∧ (W.cell? ⟨b, 0, none⟩ = some (.int .i64 1) ∧ W.cell? ⟨b, 1, none⟩ = some (.string (numS q)) ∧ W.cell? ⟨b, 2, none⟩ = some (.string (denS q)) ∧ W.cell? ⟨b, 3, none⟩ = some (.string { data := #[] }) ∧ W.cell? ⟨b, 4, none⟩ = some (.bool false) ∧ W.cell? ⟨b, 5, none⟩ = some (.int .i64 0) ∧ W.cell? ⟨b, 6, none⟩ = some (.int .i64 0) ∧ W.cell? ⟨b, 7, none⟩ = some (.int .i64 0) ∧ W.cell? ⟨b, 8, none⟩ = some (.slice none 0 0)) ∧ (W.cell? ⟨c, 0, none⟩ = some (.int .i64 1) ∧ W.cell? ⟨c, 1, none⟩ = some (.string (numS r)) ∧ W.cell? ⟨c, 2, none⟩ = some (.string (denS r)) ∧ W.cell? ⟨c, 3, none⟩ = some (.string { data := #[] }) ∧ W.cell? ⟨c, 4, none⟩ = some (.bool false) ∧ W.cell? ⟨c, 5, none⟩ = some (.int .i64 0) ∧ W.cell? ⟨c, 6, none⟩ = some (.int .i64 0) ∧ W.cell? ⟨c, 7, none⟩ = some (.int .i64 0) ∧ W.cell? ⟨c, 8, none⟩ = some (.slice none 0 0)) ∧ (W.cell? ⟨d, 0, none⟩ = some (.int .i64 1) ∧ W.cell? ⟨d, 1, none⟩ = some (.string (numS s)) ∧ W.cell? ⟨d, 2, none⟩ = some (.string (denS s)) ∧ W.cell? ⟨d, 3, none⟩ = some (.string { data := #[] }) ∧ W.cell? ⟨d, 4, none⟩ = some (.bool false) ∧ W.cell? ⟨d, 5, none⟩ = some (.int .i64 0) ∧ W.cell? ⟨d, 6, none⟩ = some (.int .i64 0) ∧ W.cell? ⟨d, 7, none⟩ = some (.int .i64 0) ∧ W.cell? ⟨d, 8, none⟩ = some (.slice none 0 0)) :=
  ⟨(nine_at h).1, (nine_at k).1, (nine_at m).1, (nine_at n).1⟩
end Go.Proofs.YtcgglmoeneiokaaGreatDoor.Num

/- The law FmathDivisors' own walk. Conditions: the tables lie as they are laid. -/
namespace Go.Proofs.YtcgglmoeneiokaaGreatDoor.Num
open Go.RowKit Go.Lib

set_option maxHeartbeats 4000000 in
set_option maxRecDepth 100000 in
theorem div_walk (x y : Int) (w : World) (hx0 : -9223372036854775808 ≤ x) (hx1 : x ≤ 9223372036854775807) (hy0 : -9223372036854775808 ≤ y) (hy1 : y ≤ 9223372036854775807) (hE : Env w) :
    Calls Tryz.prog 3 #[.int .i64 x, .int .i64 y] w fun e w' => e = .returned (.bool true) ∧ Below w.heap.size w w' := by
  have TMx := Lib.hid (fun W => kmod_any x 1000000 hx0 hx1 (by decide) (by decide) W)
  have TMy := Lib.hid (fun W => kmod_any y 1000000 hy0 hy1 (by decide) (by decide) W)
  have hxm0 := Int.emod_nonneg x (show (1000000 : Int) ≠ 0 by decide)
  have hxm1 := Int.emod_lt_of_pos x (show (0 : Int) < 1000000 by decide)
  have hym0 := Int.emod_nonneg y (show (1000000 : Int) ≠ 0 by decide)
  have hym1 := Int.emod_lt_of_pos y (show (0 : Int) < 1000000 by decide)
  obtain ⟨xm, hxm⟩ : ∃ z, x % 1000000 = z := ⟨_, rfl⟩
  obtain ⟨ym, hym⟩ : ∃ z, y % 1000000 = z := ⟨_, rfl⟩
  rw [hxm] at TMx hxm0 hxm1
  rw [hym] at TMy hym0 hym1
  have HE := Lib.hid hE
  have HL := Lib.hid (Below.refl w.heap.size w)
  clear hxm hym hE hx0 hx1 hy0 hy1
  go_enter Tryz.func3, Tryz.ntmps3
  go_wp2_with fail
  refine (TMx.out _).mono ?_
  rintro e w1 ⟨rfl, rfl⟩
  go_wp2_with fail
  refine (TMy.out _).mono ?_
  rintro e w2 ⟨rfl, rfl⟩
  obtain ⟨a, ha⟩ : ∃ a : Int, 1 + xm = a := ⟨_, rfl⟩
  obtain ⟨b, hb⟩ : ∃ b : Int, 1 + ym = b := ⟨_, rfl⟩
  have TA := Lib.hid (fun W g => kwhole_any a W (by omega) (by omega) g)
  have TB := Lib.hid (fun W g => kwhole_any b W (by omega) (by omega) g)
  have TZ := Lib.hid (fun W g => kwhole_any 0 W (by omega) (by omega) g)
  rw [numVal_is] at TA TB TZ
  have hn1 : ∀ n ∈ [a, b], 1 ≤ n ∧ n ≤ 1000000000000000 := by
    intro n hn
    simp only [List.mem_cons, List.not_mem_nil, or_false] at hn
    rcases hn with rfl | rfl <;> omega
  have hlc : ∀ k, k ≤ [a, b].length → lcmL ([a, b].take k) ≤ 1000000000000000 := side_lcm a b (by omega) (by omega)
  have hfp : ∀ k, k ≤ [(a : Rat), (b : Rat)].length → fits (prodL ([(a : Rat), (b : Rat)].take k)) = true := side_prod a b (by omega) (by omega)
  have hfq : ∀ q ∈ [(a : Rat), (b : Rat)], fits q = true := by
    intro q hq
    simp only [List.mem_cons, List.not_mem_nil, or_false] at hq
    rcases hq with rfl | rfl <;> exact fits_int _ (by omega)
  have TG := Lib.hid (fun (W : World) B C h g => m_GCD [a, b] [(a : Rat), (b : Rat)] B 0 C W rfl (by simp) (by simp) (fun n hn => by have := hn1 n hn; omega) h g)
  have TL := Lib.hid (fun (W : World) B C h g => m_LCM [a, b] [(a : Rat), (b : Rat)] B 0 C W rfl (by simp) (by simp) hn1 hlc h g)
  have TP := Lib.hid (fun (W : World) B C h g => m_PRODUCT [(a : Rat), (b : Rat)] B 0 C W (by simp) (by simp) hfq hfp h g)
  obtain ⟨hl1, hl2⟩ := l_le a b (by omega) (by omega)
  have hg1 := g_pos a b (by omega)
  have hg2 := g_le a b (by omega)
  have fG : fits (((gcdL [a, b] : Nat) : Int) : Rat) = true := fits_int _ (by omega)
  have fM : fits (((lcmL [a, b] : Nat) : Int) : Rat) = true := fits_int _ (by omega)
  have RP := Lib.hid (fun (W : World) g => math2d (fun W B C h g => gl_any a b B C W (by omega) (by omega) h g) W g)
  have RA := Lib.hid (fun (W : World) g => math2 (fun W B C h g => mod_a a b B C W (by omega) (by omega) h g) W g)
  have RB := Lib.hid (fun (W : World) g => math2 (fun W B C h g => mod_b a b B C W (by omega) (by omega) h g) W g)
  have RG := Lib.hid (fun (W : World) g => math2 (fun W B C h g => gcd_g a b B C W (by omega) (by omega) h g) W g)
  have RS := Lib.hid same_self
  clear hl1 hl2 hg1 hg2 fG fM
  obtain ⟨G, hG⟩ : ∃ G, gcdL [a, b] = G := ⟨_, rfl⟩
  obtain ⟨M, hM⟩ : ∃ M, lcmL [a, b] = M := ⟨_, rfl⟩
  obtain ⟨P, hP⟩ : ∃ P, prodL [(a : Rat), (b : Rat)] = P := ⟨_, rfl⟩
  rw [hG, numVal_is] at TG
  rw [hM, numVal_is] at TL
  rw [hP, numVal_is] at TP
  rw [hG, hM, hP] at RP
  rw [hG] at RA
  rw [hM] at RB
  rw [hG] at RG
  obtain ⟨O, hO⟩ : ∃ O : Rat, ((0 : Int) : Rat) = O := ⟨_, rfl⟩
  rw [hO] at TZ RA RB
  clear hO
  clear hG hM hP hn1 hlc hfp hfq
  go_wp2_with fail
  refine (TA.out _ HE.out).mono ?_
  rintro e w3 ⟨rfl, hq⟩
  replace HE := Lib.hid (HE.out.below hq)
  replace HL := Lib.hid (HL.out.trans (hq.mono HL.out.size))
  clear hq
  go_wp2_with fail
  refine (TB.out _ HE.out).mono ?_
  rintro e w4 ⟨rfl, hq⟩
  replace HE := Lib.hid (HE.out.below hq)
  replace HL := Lib.hid (HL.out.trans (hq.mono HL.out.size))
  clear hq
  have hq : Below w4.heap.size w4 (w4.alloc (.cells #[.int .i64 1, .string (numS (a : Rat)), .string (denS (a : Rat)), .string { data := #[] }, .bool false, .int .i64 0, .int .i64 0, .int .i64 0, .slice none 0 0, .int .i64 1, .string (numS (b : Rat)), .string (denS (b : Rat)), .string { data := #[] }, .bool false, .int .i64 0, .int .i64 0, .int .i64 0, .slice none 0 0] 27)) := (Below.refl _ _).alloc (Nat.le_refl _) _
  replace HE := Lib.hid (HE.out.below hq)
  replace HL := Lib.hid (HL.out.trans (hq.mono HL.out.size))
  have HB := Lib.hid (block2 (a : Rat) (b : Rat) w4)
  clear hq
  go_wp2_with fail
  refine (TG.out _ _ 2 HB.out HE.out).mono ?_
  rintro e w5 ⟨rfl, hq⟩
  replace HE := Lib.hid (HE.out.below hq)
  replace HL := Lib.hid (HL.out.trans (hq.mono HL.out.size))
  clear hq
  clear HB
  go_wp2_with fail
  refine (TA.out _ HE.out).mono ?_
  rintro e w6 ⟨rfl, hq⟩
  replace HE := Lib.hid (HE.out.below hq)
  replace HL := Lib.hid (HL.out.trans (hq.mono HL.out.size))
  clear hq
  go_wp2_with fail
  refine (TB.out _ HE.out).mono ?_
  rintro e w7 ⟨rfl, hq⟩
  replace HE := Lib.hid (HE.out.below hq)
  replace HL := Lib.hid (HL.out.trans (hq.mono HL.out.size))
  clear hq
  have hq : Below w7.heap.size w7 (w7.alloc (.cells #[.int .i64 1, .string (numS (a : Rat)), .string (denS (a : Rat)), .string { data := #[] }, .bool false, .int .i64 0, .int .i64 0, .int .i64 0, .slice none 0 0, .int .i64 1, .string (numS (b : Rat)), .string (denS (b : Rat)), .string { data := #[] }, .bool false, .int .i64 0, .int .i64 0, .int .i64 0, .slice none 0 0] 27)) := (Below.refl _ _).alloc (Nat.le_refl _) _
  replace HE := Lib.hid (HE.out.below hq)
  replace HL := Lib.hid (HL.out.trans (hq.mono HL.out.size))
  have HB := Lib.hid (block2 (a : Rat) (b : Rat) w7)
  clear hq
  go_wp2_with fail
  refine (TL.out _ _ 2 HB.out HE.out).mono ?_
  rintro e w8 ⟨rfl, hq⟩
  replace HE := Lib.hid (HE.out.below hq)
  replace HL := Lib.hid (HL.out.trans (hq.mono HL.out.size))
  clear hq
  clear HB
  obtain ⟨WS, hWS⟩ : ∃ WS, (w8.alloc (.cells #[.int .i64 1, .string (numS ((G : Int) : Rat)), .string (denS ((G : Int) : Rat)), .string { data := #[] }, .bool false, .int .i64 0, .int .i64 0, .int .i64 0, .slice none 0 0] 27)).alloc (.cells #[.int .i64 1, .string (numS ((M : Int) : Rat)), .string (denS ((M : Int) : Rat)), .string { data := #[] }, .bool false, .int .i64 0, .int .i64 0, .int .i64 0, .slice none 0 0] 27) = WS := ⟨_, rfl⟩
  have hq : Below w8.heap.size w8 ((w8.alloc (.cells #[.int .i64 1, .string (numS ((G : Int) : Rat)), .string (denS ((G : Int) : Rat)), .string { data := #[] }, .bool false, .int .i64 0, .int .i64 0, .int .i64 0, .slice none 0 0] 27)).alloc (.cells #[.int .i64 1, .string (numS ((M : Int) : Rat)), .string (denS ((M : Int) : Rat)), .string { data := #[] }, .bool false, .int .i64 0, .int .i64 0, .int .i64 0, .slice none 0 0] 27)) := ((Below.refl _ _).alloc (Nat.le_refl _) _).alloc (by simp) _
  obtain ⟨hx, hy, _⟩ := two_new w8 (.cells #[.int .i64 1, .string (numS ((G : Int) : Rat)), .string (denS ((G : Int) : Rat)), .string { data := #[] }, .bool false, .int .i64 0, .int .i64 0, .int .i64 0, .slice none 0 0] 27) (.cells #[.int .i64 1, .string (numS ((M : Int) : Rat)), .string (denS ((M : Int) : Rat)), .string { data := #[] }, .bool false, .int .i64 0, .int .i64 0, .int .i64 0, .slice none 0 0] 27)
  rw [hWS] at hq hx hy
  replace HE := Lib.hid (HE.out.below hq)
  replace HL := Lib.hid (HL.out.trans (hq.mono HL.out.size))
  have HX := Lib.hid hx
  have HY := Lib.hid hy
  have HWS := Lib.hid hWS
  clear hq hx hy hWS
  go_wp2_with fail
  rw [HWS.out]
  refine (TA.out _ HE.out).mono ?_
  rintro e w9 ⟨rfl, hq⟩
  replace HE := Lib.hid (HE.out.below hq)
  replace HL := Lib.hid (HL.out.trans (hq.mono HL.out.size))
  replace HX := Lib.hid (keep_block HX.out hq)
  replace HY := Lib.hid (keep_block HY.out hq)
  clear hq
  go_wp2_with fail
  refine (TB.out _ HE.out).mono ?_
  rintro e w10 ⟨rfl, hq⟩
  replace HE := Lib.hid (HE.out.below hq)
  replace HL := Lib.hid (HL.out.trans (hq.mono HL.out.size))
  replace HX := Lib.hid (keep_block HX.out hq)
  replace HY := Lib.hid (keep_block HY.out hq)
  clear hq
  have hq : Below w10.heap.size w10 (w10.alloc (.cells #[.int .i64 1, .string (numS (a : Rat)), .string (denS (a : Rat)), .string { data := #[] }, .bool false, .int .i64 0, .int .i64 0, .int .i64 0, .slice none 0 0, .int .i64 1, .string (numS (b : Rat)), .string (denS (b : Rat)), .string { data := #[] }, .bool false, .int .i64 0, .int .i64 0, .int .i64 0, .slice none 0 0] 27)) := (Below.refl _ _).alloc (Nat.le_refl _) _
  replace HE := Lib.hid (HE.out.below hq)
  replace HL := Lib.hid (HL.out.trans (hq.mono HL.out.size))
  have HB := Lib.hid (block2 (a : Rat) (b : Rat) w10)
  replace HX := Lib.hid (keep_block HX.out hq)
  replace HY := Lib.hid (keep_block HY.out hq)
  clear hq
  go_wp2_with fail
  refine (TP.out _ _ 2 HB.out HE.out).mono ?_
  rintro e w11 ⟨rfl, hq⟩
  replace HE := Lib.hid (HE.out.below hq)
  replace HL := Lib.hid (HL.out.trans (hq.mono HL.out.size))
  replace HX := Lib.hid (keep_block HX.out hq)
  replace HY := Lib.hid (keep_block HY.out hq)
  clear hq
  clear HB
  have hq : Below w11.heap.size w11 (w11.alloc (.cells #[.int .i64 1, .string (numS P), .string (denS P), .string { data := #[] }, .bool false, .int .i64 0, .int .i64 0, .int .i64 0, .slice none 0 0] 27)) := (Below.refl _ _).alloc (Nat.le_refl _) _
  replace HE := Lib.hid (HE.out.below hq)
  replace HL := Lib.hid (HL.out.trans (hq.mono HL.out.size))
  have HPB := Lib.hid (heap_alloc_new w11 (.cells #[.int .i64 1, .string (numS P), .string (denS P), .string { data := #[] }, .bool false, .int .i64 0, .int .i64 0, .int .i64 0, .slice none 0 0] 27))
  replace HX := Lib.hid (keep_block HX.out hq)
  replace HY := Lib.hid (keep_block HY.out hq)
  clear hq
  go_wp2_with fail
  refine (TZ.out _ HE.out).mono ?_
  rintro e w12 ⟨rfl, hq⟩
  replace HE := Lib.hid (HE.out.below hq)
  replace HL := Lib.hid (HL.out.trans (hq.mono HL.out.size))
  replace HX := Lib.hid (keep_block HX.out hq)
  replace HY := Lib.hid (keep_block HY.out hq)
  replace HPB := Lib.hid (keep_block HPB.out hq)
  clear hq
  have hq : Below w12.heap.size w12 (w12.alloc (.cells #[.int .i64 1, .string (numS O), .string (denS O), .string { data := #[] }, .bool false, .int .i64 0, .int .i64 0, .int .i64 0, .slice none 0 0] 27)) := (Below.refl _ _).alloc (Nat.le_refl _) _
  replace HE := Lib.hid (HE.out.below hq)
  replace HL := Lib.hid (HL.out.trans (hq.mono HL.out.size))
  have HZB := Lib.hid (heap_alloc_new w12 (.cells #[.int .i64 1, .string (numS O), .string (denS O), .string { data := #[] }, .bool false, .int .i64 0, .int .i64 0, .int .i64 0, .slice none 0 0] 27))
  replace HX := Lib.hid (keep_block HX.out hq)
  replace HY := Lib.hid (keep_block HY.out hq)
  replace HPB := Lib.hid (keep_block HPB.out hq)
  clear hq
  obtain ⟨V0, hV0⟩ : ∃ V0, (w12.alloc (.cells #[.int .i64 1, .string (numS O), .string (denS O), .string { data := #[] }, .bool false, .int .i64 0, .int .i64 0, .int .i64 0, .slice none 0 0] 27)) = V0 := ⟨_, rfl⟩
  rw [hV0] at HE HL HX HY HPB HZB
  have HV0 := Lib.hid hV0
  clear hV0
  go_wp2_with fail
  rw [HV0.out]
  go_region_held3 (fun Z => (Z.cell? ⟨w8.heap.size, 0, none⟩ = some (.int .i64 1) ∧ Z.cell? ⟨w8.heap.size, 1, none⟩ = some (.string (numS ((G : Int) : Rat))) ∧ Z.cell? ⟨w8.heap.size, 2, none⟩ = some (.string (denS ((G : Int) : Rat))) ∧ Z.cell? ⟨w8.heap.size, 3, none⟩ = some (.string { data := #[] }) ∧ Z.cell? ⟨w8.heap.size, 4, none⟩ = some (.bool false) ∧ Z.cell? ⟨w8.heap.size, 5, none⟩ = some (.int .i64 0) ∧ Z.cell? ⟨w8.heap.size, 6, none⟩ = some (.int .i64 0) ∧ Z.cell? ⟨w8.heap.size, 7, none⟩ = some (.int .i64 0) ∧ Z.cell? ⟨w8.heap.size, 8, none⟩ = some (.slice none 0 0)) ∧ (Z.cell? ⟨w8.heap.size + 1, 0, none⟩ = some (.int .i64 1) ∧ Z.cell? ⟨w8.heap.size + 1, 1, none⟩ = some (.string (numS ((M : Int) : Rat))) ∧ Z.cell? ⟨w8.heap.size + 1, 2, none⟩ = some (.string (denS ((M : Int) : Rat))) ∧ Z.cell? ⟨w8.heap.size + 1, 3, none⟩ = some (.string { data := #[] }) ∧ Z.cell? ⟨w8.heap.size + 1, 4, none⟩ = some (.bool false) ∧ Z.cell? ⟨w8.heap.size + 1, 5, none⟩ = some (.int .i64 0) ∧ Z.cell? ⟨w8.heap.size + 1, 6, none⟩ = some (.int .i64 0) ∧ Z.cell? ⟨w8.heap.size + 1, 7, none⟩ = some (.int .i64 0) ∧ Z.cell? ⟨w8.heap.size + 1, 8, none⟩ = some (.slice none 0 0)) ∧ (Z.cell? ⟨w11.heap.size, 0, none⟩ = some (.int .i64 1) ∧ Z.cell? ⟨w11.heap.size, 1, none⟩ = some (.string (numS P)) ∧ Z.cell? ⟨w11.heap.size, 2, none⟩ = some (.string (denS P)) ∧ Z.cell? ⟨w11.heap.size, 3, none⟩ = some (.string { data := #[] }) ∧ Z.cell? ⟨w11.heap.size, 4, none⟩ = some (.bool false) ∧ Z.cell? ⟨w11.heap.size, 5, none⟩ = some (.int .i64 0) ∧ Z.cell? ⟨w11.heap.size, 6, none⟩ = some (.int .i64 0) ∧ Z.cell? ⟨w11.heap.size, 7, none⟩ = some (.int .i64 0) ∧ Z.cell? ⟨w11.heap.size, 8, none⟩ = some (.slice none 0 0)) ∧ (Z.cell? ⟨w12.heap.size, 0, none⟩ = some (.int .i64 1) ∧ Z.cell? ⟨w12.heap.size, 1, none⟩ = some (.string (numS O)) ∧ Z.cell? ⟨w12.heap.size, 2, none⟩ = some (.string (denS O)) ∧ Z.cell? ⟨w12.heap.size, 3, none⟩ = some (.string { data := #[] }) ∧ Z.cell? ⟨w12.heap.size, 4, none⟩ = some (.bool false) ∧ Z.cell? ⟨w12.heap.size, 5, none⟩ = some (.int .i64 0) ∧ Z.cell? ⟨w12.heap.size, 6, none⟩ = some (.int .i64 0) ∧ Z.cell? ⟨w12.heap.size, 7, none⟩ = some (.int .i64 0) ∧ Z.cell? ⟨w12.heap.size, 8, none⟩ = some (.slice none 0 0)))
    (first | (with_reducible exact four9 (drew_block HX.out) (drew_block HY.out) (drew_block HPB.out) (drew_block HZB.out)) | (with_reducible exact four9 (drew_block (new_keep HX.out)) (drew_block (new_keep HY.out)) (drew_block (new_keep HPB.out)) (drew_block (new_keep HZB.out))) | (with_reducible exact four9 HX.out HY.out HPB.out HZB.out) | (with_reducible exact four9 (new_keep HX.out) (new_keep HY.out) (new_keep HPB.out) (new_keep HZB.out)) | fail)
    ((first | (go_at_call 10; (first | (with_reducible refine (RP.out _ HE.out).mono ?_) | (with_reducible refine (RA.out _ HE.out).mono ?_) | (with_reducible refine (RB.out _ HE.out).mono ?_) | (with_reducible refine (RG.out _ HE.out).mono ?_)); rintro e V1 ⟨rfl, hb⟩; replace HX := Lib.hid (keep_block HX.out hb); replace HY := Lib.hid (keep_block HY.out hb); replace HPB := Lib.hid (keep_block HPB.out hb); replace HZB := Lib.hid (keep_block HZB.out hb); replace HE := Lib.hid (HE.out.below hb); replace HL := Lib.hid (HL.out.trans (hb.mono HL.out.size)); clear hb) | (go_at_call 12; (first | (with_reducible refine (RS.out _ _).mono ?_)); rintro e V1 ⟨rfl, hb⟩; replace HX := Lib.hid (keep_block HX.out hb); replace HY := Lib.hid (keep_block HY.out hb); replace HPB := Lib.hid (keep_block HPB.out hb); replace HZB := Lib.hid (keep_block HZB.out hb); replace HE := Lib.hid (HE.out.below hb); replace HL := Lib.hid (HL.out.trans (hb.mono HL.out.size)); clear hb) | (go_at_call 11; (first | (with_reducible refine (TA.out _ HE.out).mono ?_) | (with_reducible refine (TB.out _ HE.out).mono ?_)); rintro e V1 ⟨rfl, hb⟩; replace HX := Lib.hid (keep_block HX.out hb); replace HY := Lib.hid (keep_block HY.out hb); replace HPB := Lib.hid (keep_block HPB.out hb); replace HZB := Lib.hid (keep_block HZB.out hb); replace HE := Lib.hid (HE.out.below hb); replace HL := Lib.hid (HL.out.trans (hb.mono HL.out.size)); clear hb)))
  go_wp2
  go_ret
  exact ⟨rfl, HL.out⟩
end Go.Proofs.YtcgglmoeneiokaaGreatDoor.Num
