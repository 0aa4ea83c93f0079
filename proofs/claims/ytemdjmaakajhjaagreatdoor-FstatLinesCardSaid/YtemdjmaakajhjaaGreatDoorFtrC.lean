/- Numbers as texts of digits, fractions, values and the functions of fmath: contracts of the program's functions, joined from smaller texts. Conditions stand at each theorem. -/
import Derived.Test.YtemdjmaakajhjaaGreatDoorFtcA
import Derived.Test.YtemdjmaakajhjaaGreatDoorFtrB

/- Sums of products of deviations; a line through points of a line. Plain: no program. -/
namespace Go.Proofs.YtemdjmaakajhjaaGreatDoor.Num

/-- products of the deviations of two rows, one by one; their sum -/
def crossL (p q : List Rat) : List Rat := List.zipWith (fun a b => a * b) (devL p) (devL q)
def crossR (p q : List Rat) : Rat := sumL (crossL p q)
theorem crossL_len (p q : List Rat) (h : p.length = q.length) : (crossL p q).length = q.length := by
  unfold crossL; rw [List.length_zipWith, devL_len, devL_len, h]; omega
theorem crossL_self (p : List Rat) : crossL p p = (devL p).map fun d => d * d := by
  unfold crossL
  rw [List.zipWith_self]
theorem crossR_self (p : List Rat) : crossR p p = sqR p := by unfold crossR sqR; rw [crossL_self]
theorem zip_over (c d : Nat) : ∀ xs ys : List Int, List.zipWith (fun a b => a * b) (over c xs) (over d ys) = over (c * d) (List.zipWith (fun a b => a * b) xs ys)
  | [], _ => by simp [over]
  | _ :: _, [] => by simp [over]
  | x :: xs, y :: ys => by
    have ih := zip_over c d xs ys
    have e : (x : Rat) / ((c : Nat) : Rat) * ((y : Rat) / ((d : Nat) : Rat)) = ((x * y : Int) : Rat) / ((c * d : Nat) : Rat) := by
      rw [Rat.intCast_mul, Rat.natCast_mul]
      by_cases h : ((c : Nat) : Rat) = 0
      · rw [h]; grind
      · by_cases h' : ((d : Nat) : Rat) = 0
        · rw [h']; grind
        · grind
    show ((x : Rat) / ((c : Nat) : Rat) * ((y : Rat) / ((d : Nat) : Rat))) :: List.zipWith (fun a b => a * b) (over c xs) (over d ys) = ((x * y : Int) : Rat) / ((c * d : Nat) : Rat) :: over (c * d) (List.zipWith (fun a b => a * b) xs ys)
    rw [ih, e]
/-- products of whole numbers, one by one -/
def crossI (xs ys : List Int) : List Int := List.zipWith (fun a b => a * b) (devI xs) (devI ys)
theorem zip_le {X Y : Nat} : ∀ {xs ys : List Int}, (∀ x ∈ xs, x.natAbs ≤ X) → (∀ y ∈ ys, y.natAbs ≤ Y) → ∀ z ∈ List.zipWith (fun a b => a * b) xs ys, z.natAbs ≤ X * Y
  | [], _, _, _, z, hz => by simp at hz
  | _ :: _, [], _, _, z, hz => by simp at hz
  | x :: xs, y :: ys, h, k, z, hz => by
    rw [List.zipWith_cons_cons] at hz
    rcases List.mem_cons.1 hz with rfl | hz
    · rw [Int.natAbs_mul]
      exact Nat.mul_le_mul (h x List.mem_cons_self) (k y List.mem_cons_self)
    · exact zip_le (fun a ha => h a (List.mem_cons_of_mem _ ha)) (fun b hb => k b (List.mem_cons_of_mem _ hb)) z hz
section
variable {c d X Y : Nat} {xs ys : List Int} (h : Row12 c X xs) (k : Row12 d Y ys)
include h k
theorem cross_is : crossL (over c xs) (over d ys) = over (c * xs.length * (d * ys.length)) (crossI xs ys) := by
  unfold crossL crossI
  rw [dev_over c xs h.c0 h.pos, dev_over d ys k.c0 k.pos, zip_over]
theorem cross_le : ∀ z ∈ crossI xs ys, z.natAbs ≤ 3600000000000000000000000000 := fun z hz => zip_le h.devs k.devs z hz
theorem cross_ne : c * xs.length * (d * ys.length) ≠ 0 := Nat.mul_ne_zero h.cn k.cn
theorem cross_cn : c * xs.length * (d * ys.length) ≤ 900000000000000 := Nat.mul_le_mul h.cn9 k.cn9
omit k in
theorem crossI_len : (crossI xs ys).length ≤ 30 := by
  unfold crossI
  rw [List.length_zipWith, devI_len]
  have := h.len; omega
theorem cross_each : ∀ q ∈ crossL (over c xs) (over d ys), fits q = true := by
  rw [cross_is h k]
  exact fits_each (cross_ne h k) (Nat.lt_of_le_of_lt (cross_cn h k) (by decide +kernel)) (by decide +kernel) (cross_le h k)
theorem cross_sums (n : Nat) : fits (sumL ((crossL (over c xs) (over d ys)).take n)) = true := by
  rw [cross_is h k]
  exact fits_big (L := 30) (cross_ne h k) (Nat.lt_of_le_of_lt (cross_cn h k) (by decide +kernel)) (crossI_len (ys := ys) h) (by decide +kernel) (cross_le h k) n
theorem cross_sm : Sm (crossR (over c xs) (over d ys)) (10 ^ 30) (10 ^ 15) := by
  unfold crossR
  rw [cross_is h k, sumL_over]
  refine ⟨_, _, cross_ne h k, rfl, ?_, Nat.le_trans (cross_cn h k) (by decide)⟩
  refine Nat.le_trans (sum_bound _ _ (cross_le h k)) (Nat.le_trans (Nat.mul_le_mul (crossI_len (ys := ys) h) (Nat.le_refl _)) (by decide))
theorem cross_fits : fits (crossR (over c xs) (over d ys)) = true := (cross_sm h k).fits (by decide +kernel) (by decide +kernel)
end

/-- the points' second coordinates: K x + B, over 100 -/
def lineI (K B : Int) (xs : List Int) : List Int := xs.map fun x => K * x + B * 1
theorem lineI_sum (K B : Int) : ∀ xs : List Int, (lineI K B xs).sum = K * xs.sum + (xs.length : Int) * B
  | [] => by simp [lineI]
  | x :: r => by
    have ih := lineI_sum K B r
    show (K * x + B * 1) + (lineI K B r).sum = _
    rw [ih, List.sum_cons, List.length_cons, Int.natCast_add, Int.add_mul, Int.mul_add]
    omega
theorem devI_line (K B : Int) (xs : List Int) : devI (lineI K B xs) = (devI xs).map fun x => K * x := by
  unfold devI
  rw [lineI_sum, show (lineI K B xs).length = xs.length by simp [lineI]]
  unfold lineI
  rw [List.map_map, List.map_map]
  apply List.map_congr_left
  intro x _
  show (xs.length : Int) * (K * x + B * 1) - (K * xs.sum + xs.length * B) = K * ((xs.length : Int) * x - xs.sum)
  grind
section
variable {xs : List Int} (h : Row12 1 6 xs) (K B : Int) (hK : K.natAbs ≤ 1000000) (hB : B.natAbs ≤ 1000000)
include h hK hB
theorem line_row : Row12 100 7000000 (lineI K B xs) :=
  ⟨by decide, by decide, by unfold lineI; rw [List.length_map]; exact h.pos, by unfold lineI; rw [List.length_map]; exact h.len, by
    intro x hx
    obtain ⟨y, hy, rfl⟩ := List.mem_map.1 hx
    have h1 := h.le y hy
    have h2 : (K * y).natAbs ≤ 1000000 * 6 := by rw [Int.natAbs_mul]; exact Nat.mul_le_mul hK h1
    omega, by decide⟩
end
def slopeR (K : Int) : Rat := (K : Rat) / ((100 : Nat) : Rat)
/-- each point: k x + b -/
theorem line_at (K B x : Int) : (x : Rat) / ((1 : Nat) : Rat) * slopeR K + slopeR B = ((K * x + B * 1 : Int) : Rat) / ((100 : Nat) : Rat) := by
  unfold slopeR
  have h1 : ((100 : Nat) : Rat) ≠ 0 := nat_ne (by decide)
  rw [Rat.intCast_add, Rat.intCast_mul, Rat.intCast_mul]
  show (x : Rat) / 1 * _ + _ = ((K : Rat) * (x : Rat) + (B : Rat) * 1) / _
  grind
theorem dev_line {xs : List Int} (K B : Int) (h0 : 0 < xs.length) : devL (over 100 (lineI K B xs)) = (devL (over 1 xs)).map fun e => slopeR K * e := by
  have hl : (lineI K B xs).length = xs.length := by simp [lineI]
  rw [dev_over 100 _ (by decide) (by rw [hl]; exact h0), dev_over 1 xs (by decide) h0, devI_line, hl]
  simp only [over, List.map_map]
  apply List.map_congr_left
  intro x _
  show ((K * x : Int) : Rat) / ((100 * xs.length : Nat) : Rat) = slopeR K * ((x : Rat) / ((1 * xs.length : Nat) : Rat))
  have h1 : ((100 : Nat) : Rat) ≠ 0 := nat_ne (by decide)
  have h2 := nat_ne (b := xs.length) (by omega)
  unfold slopeR
  rw [Nat.one_mul, Rat.intCast_mul, Rat.natCast_mul]
  grind
theorem sum_scale (k : Rat) : ∀ l : List Rat, sumL (l.map fun e => k * e) = k * sumL l
  | [] => by show (0 : Rat) = k * 0; grind
  | x :: r => by rw [List.map_cons, sumL_cons, sumL_cons, sum_scale k r]; grind
theorem cross_line {xs : List Int} (K B : Int) (h0 : 0 < xs.length) : crossR (over 100 (lineI K B xs)) (over 1 xs) = slopeR K * crossR (over 1 xs) (over 1 xs) := by
  unfold crossR crossL
  rw [dev_line K B h0, ← sum_scale]
  congr 1
  generalize devL (over 1 xs) = l
  induction l with
  | nil => rfl
  | cons x r ih => rw [List.map_cons, List.zipWith_cons_cons, List.zipWith_cons_cons, List.map_cons, ih]; congr 1; grind
theorem cross_line2 {xs : List Int} (K B : Int) (h0 : 0 < xs.length) : crossR (over 100 (lineI K B xs)) (over 100 (lineI K B xs)) = slopeR K * slopeR K * crossR (over 1 xs) (over 1 xs) := by
  unfold crossR crossL
  rw [dev_line K B h0, ← sum_scale]
  congr 1
  generalize devL (over 1 xs) = l
  induction l with
  | nil => rfl
  | cons x r ih => rw [List.map_cons, List.zipWith_cons_cons, List.zipWith_cons_cons, List.map_cons, ih]; congr 1; grind
theorem mean_line {xs : List Int} (K B : Int) (h0 : 0 < xs.length) : meanR (over 100 (lineI K B xs)) - slopeR K * meanR (over 1 xs) = slopeR B := by
  have hl : (lineI K B xs).length = xs.length := by simp [lineI]
  rw [mean_over 100 _ (by decide) (by rw [hl]; exact h0), mean_over 1 xs (by decide) h0, lineI_sum, hl]
  have h1 : ((100 : Nat) : Rat) ≠ 0 := nat_ne (by decide)
  have h2 := nat_ne (b := xs.length) (by omega)
  unfold slopeR
  rw [Nat.one_mul, Rat.intCast_add, Rat.intCast_mul, Rat.intCast_mul, Rat.natCast_mul, Rat.intCast_natCast]
  grind
theorem sqi_nonneg (y : Int) : 0 ≤ y * y := by
  rcases Int.le_total 0 y with h | h
  · exact Int.mul_nonneg h h
  · exact Int.mul_nonneg_of_nonpos_of_nonpos h h
theorem sum_sq_pos : ∀ {l : List Int}, (∃ x ∈ l, x ≠ 0) → 0 < (l.map fun x => x * x).sum
  | [], h => by obtain ⟨x, hx, _⟩ := h; simp at hx
  | x :: r, h => by
    rw [List.map_cons, List.sum_cons]
    have h0 : ∀ l : List Int, 0 ≤ (l.map fun x => x * x).sum := by
      intro l
      induction l with
      | nil => decide
      | cons y s ih => rw [List.map_cons, List.sum_cons]; have := sqi_nonneg y; omega
    by_cases hx : x = 0
    · obtain ⟨y, hy, hne⟩ := h
      rcases List.mem_cons.1 hy with rfl | hy
      · exact absurd hx hne
      · have := sum_sq_pos ⟨y, hy, hne⟩
        have := sqi_nonneg x
        omega
    · have h1 := h0 r
      have h2 : 0 < x * x := by
        rcases Int.lt_or_gt_of_ne hx with h | h
        · exact Int.mul_pos_of_neg_of_neg h h
        · exact Int.mul_pos h h
      omega
/-- two of the numbers differ: the deviations are not all 0 -/
theorem cross_pos {xs : List Int} (h : Row12 1 6 xs) {a b : Int} (ha : a ∈ xs) (hb : b ∈ xs) (hab : a ≠ b) : crossR (over 1 xs) (over 1 xs) ≠ 0 := by
  rw [crossR_self, h.sqR_is]
  have hne := nat_ne (Nat.mul_ne_zero h.cn h.cn)
  have hs : 0 < ((devI xs).map fun x => x * x).sum := by
    apply sum_sq_pos
    have hn : (xs.length : Int) ≠ 0 := by have := h.pos; omega
    by_cases e : (xs.length : Int) * a - xs.sum = 0
    · refine ⟨(xs.length : Int) * b - xs.sum, List.mem_map.2 ⟨b, hb, rfl⟩, fun e2 => ?_⟩
      have : (xs.length : Int) * a = (xs.length : Int) * b := by omega
      exact hab (Int.eq_of_mul_eq_mul_left hn this)
    · exact ⟨_, List.mem_map.2 ⟨a, ha, rfl⟩, e⟩
  have h2 : ((((devI xs).map fun x => x * x).sum : Int) : Rat) ≠ 0 := int_ne (by omega)
  intro e
  apply h2
  grind
end Go.Proofs.YtemdjmaakajhjaaGreatDoor.Num

/- package fstat: read at two rows of numbers, each over one denominator. Conditions: at most 30 numbers (Row12); the tables lie as they are laid. -/
namespace Go.Proofs.YtemdjmaakajhjaaGreatDoor.Num.Ft
open Go.RowKit Go.Lib Num

theorem cross_at {p q : List Rat} (hl : p.length = q.length) (k : Nat) (hk : k < p.length) : (devL p).getD k 0 * (devL q).getD k 0 ∈ crossL p q ∧ sumL ((crossL p q).take k) + (devL p).getD k 0 * (devL q).getD k 0 = sumL ((crossL p q).take (k + 1)) := by
  have hp : k < (devL p).length := by rw [devL_len]; exact hk
  have hq : k < (devL q).length := by rw [devL_len, ← hl]; exact hk
  have hc : k < (crossL p q).length := by rw [crossL_len p q hl, ← hl]; exact hk
  have e : (crossL p q)[k] = (devL p).getD k 0 * (devL q).getD k 0 := by
    rw [List.getD_eq_getElem?_getD, List.getElem?_eq_getElem hp, List.getD_eq_getElem?_getD, List.getElem?_eq_getElem hq]
    simp only [crossL, List.getElem_zipWith, Option.getD_some]
  constructor
  · rw [← e]; exact List.getElem_mem hc
  · rw [List.take_succ_eq_append_getElem hc, sumL_snoc, e]
theorem cross_all {p q : List Rat} (hl : p.length = q.length) : sumL ((crossL p q).take p.length) = crossR p q := by
  unfold crossR
  rw [List.take_of_length_le (by rw [crossL_len p q hl, hl]; exact Nat.le_refl _)]
section
variable {c d X Y : Nat} {xs ys : List Int} (h : Row12 c X xs) (k : Row12 d Y ys) (hl : xs.length = ys.length)
include h k hl
theorem read_num (ra sa rb sb : Int) (ga gb Ca Cb : Nat) (W : World) (hva : ValsAt W ga 0 (numVals (over c xs))) (hvb : ValsAt W gb 0 (numVals (over d ys))) (hE : EnvY W) :
    Calls Tryz.prog 175 #[(arrVal' ra sa ga (over c xs).length Ca).agg, (arrVal' rb sb gb (over d ys).length Cb).agg] W fun e w' => (∃ A1 c1 A2 c2, e = .returned (.agg #[.slice A1 (over c xs).length c1, .slice A2 (over c xs).length c2, .string (numS (meanR (over c xs))), .string (denS (meanR (over c xs))), .string (numS (meanR (over d ys))), .string (denS (meanR (over d ys))), .string (numS (crossR (over c xs) (over c xs))), .string (denS (crossR (over c xs) (over c xs))), .string (numS (crossR (over d ys) (over d ys))), .string (denS (crossR (over d ys) (over d ys))), .string (numS (crossR (over c xs) (over d ys))), .string (denS (crossR (over c xs) (over d ys)))])) ∧ Below W.heap.size W w' := by
  have hlq : (over d ys).length = (over c xs).length := by rw [over_len, over_len, hl]
  have hpos := h.len_pos
  have h30 := h.len
  have hxl : (over c xs).length = xs.length := over_len c xs
  have T := read_walk (over c xs).length ga gb Ca Cb ra sa rb sb (over c xs) (over d ys) (meanR (over c xs)) (meanR (over d ys)) 0
    (fun i => sumL ((crossL (over c xs) (over c xs)).take i)) (fun i => sumL ((crossL (over d ys) (over d ys)).take i)) (fun i => sumL ((crossL (over c xs) (over d ys)).take i))
    (fun i => (devL (over c xs)).getD i 0) (fun i => (devL (over d ys)).getD i 0) (fun i => (devL (over c xs)).getD i 0 * (devL (over c xs)).getD i 0) (fun i => (devL (over d ys)).getD i 0 * (devL (over d ys)).getD i 0) (fun i => (devL (over c xs)).getD i 0 * (devL (over d ys)).getD i 0) W
    rfl hlq hpos (by omega) hva hvb (r_mean h) (r_mean k) (c_of (n := 0) (by decide)) ⟨rfl, rfl, rfl⟩
    (fun i hi => c_sub (h.each _ (List.getElem_mem hi)) h.mean (dev_at h i hi).2 (dev_at h i hi).1)
    (fun i hi => c_sub (k.each _ (List.getElem_mem hi)) k.mean (dev_at k i hi).2 (dev_at k i hi).1)
    (fun i hi => ⟨c_mul (dev_at h i hi).2 (dev_at h i hi).2 (cross_each h h _ (cross_at rfl i hi).1) rfl, c_mul (dev_at k i (by omega)).2 (dev_at k i (by omega)).2 (cross_each k k _ (cross_at rfl i (by omega)).1) rfl, c_mul (dev_at h i hi).2 (dev_at k i (by omega)).2 (cross_each h k _ (cross_at hlq.symm i hi).1) rfl⟩)
    (fun i hi => ⟨c_add (cross_sums h h i) (cross_each h h _ (cross_at rfl i hi).1) (cross_sums h h (i + 1)) (cross_at rfl i hi).2, c_add (cross_sums k k i) (cross_each k k _ (cross_at rfl i (by omega)).1) (cross_sums k k (i + 1)) (cross_at rfl i (by omega)).2, c_add (cross_sums h k i) (cross_each h k _ (cross_at hlq.symm i hi).1) (cross_sums h k (i + 1)) (cross_at hlq.symm i hi).2⟩) hE
  have e1 := cross_all (p := over c xs) (q := over c xs) rfl
  have e2 := cross_all (p := over d ys) (q := over d ys) rfl
  have e3 := cross_all (p := over c xs) (q := over d ys) hlq.symm
  rw [hlq] at e2
  simp only [e1, e2, e3] at T
  rw [hlq]
  exact T
end
end Go.Proofs.YtemdjmaakajhjaaGreatDoor.Num.Ft
