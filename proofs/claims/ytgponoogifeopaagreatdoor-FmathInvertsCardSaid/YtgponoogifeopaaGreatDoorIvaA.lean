/- Numbers as texts of digits, fractions, values and the functions of fmath: contracts of the program's functions, joined from smaller texts. Conditions stand at each theorem. -/
import Derived.Test.YtgponoogifeopaaGreatDoorNumH
import Derived.OrdersHeld
import Derived.Deep.RegionHeld3

/- Matrices of at most four rows: determinants, row operations, inverses. Plain: no program. -/
namespace Go.Proofs.YtgponoogifeopaaGreatDoor.Num

def Mx : Type := Nat → Nat → Rat
def swapM (m : Mx) (i k : Nat) : Mx := fun r => if r = i then m k else if r = k then m i else m r
def rowM (m : Mx) (j i : Nat) (f : Rat) : Mx := fun r c => if r = j then m j c - f * m i c else m r c
def scaleM (m : Mx) (e : Nat → Rat) : Mx := fun r c => m r c * e r
def unitM : Mx := fun r c => if r = c then 1 else 0
def d2 (m : Mx) (a b x y : Nat) : Rat := m a x * m b y - m a y * m b x
def d3 (m : Mx) (a b c x y z : Nat) : Rat := m a x * d2 m b c y z - m a y * d2 m b c x z + m a z * d2 m b c x y
def detM : Nat → Mx → Rat
  | 1, m => m 0 0
  | 2, m => d2 m 0 1 0 1
  | 3, m => d3 m 0 1 2 0 1 2
  | 4, m => m 0 0 * d3 m 1 2 3 1 2 3 - m 0 1 * d3 m 1 2 3 0 2 3 + m 0 2 * d3 m 1 2 3 0 1 3 - m 0 3 * d3 m 1 2 3 0 1 2
  | _, _ => 1
def sumN (f : Nat → Rat) : Nat → Rat
  | 0 => 0
  | k + 1 => sumN f k + f k
def prodN (f : Nat → Rat) : Nat → Rat
  | 0 => 1
  | k + 1 => prodN f k * f k
def mulM (n : Nat) (a b : Mx) : Mx := fun r c => sumN (fun k => a r k * b k c) n
theorem four {P : Nat → Prop} (h0 : P 0) (h1 : P 1) (h2 : P 2) (h3 : P 3) {i : Nat} (h : i < 4) : P i := by
  match i, h with
  | 0, _ => exact h0
  | 1, _ => exact h1
  | 2, _ => exact h2
  | 3, _ => exact h3

theorem det_unit {n : Nat} (h0 : 1 ≤ n) (h4 : n ≤ 4) : detM n unitM = 1 := by
  obtain rfl | rfl | rfl | rfl : n = 1 ∨ n = 2 ∨ n = 3 ∨ n = 4 := by omega
  all_goals (simp [detM, d3, d2, unitM]; try grind)
theorem det_swap {n i k : Nat} (m : Mx) (h4 : n ≤ 4) (hi : i < k) (hk : k < n) : detM n (swapM m i k) = - detM n m := by
  obtain rfl | rfl | rfl | rfl : n = 1 ∨ n = 2 ∨ n = 3 ∨ n = 4 := by omega
  · omega
  · obtain ⟨rfl, rfl⟩ : i = 0 ∧ k = 1 := by omega
    simp [detM, d2, swapM]; grind
  · obtain ⟨rfl, rfl⟩ | ⟨rfl, rfl⟩ | ⟨rfl, rfl⟩ : i = 0 ∧ k = 1 ∨ i = 0 ∧ k = 2 ∨ i = 1 ∧ k = 2 := by omega
    all_goals (simp [detM, d3, d2, swapM]; grind)
  · obtain ⟨rfl, rfl⟩ | ⟨rfl, rfl⟩ | ⟨rfl, rfl⟩ | ⟨rfl, rfl⟩ | ⟨rfl, rfl⟩ | ⟨rfl, rfl⟩ : i = 0 ∧ k = 1 ∨ i = 0 ∧ k = 2 ∨ i = 0 ∧ k = 3 ∨ i = 1 ∧ k = 2 ∨ i = 1 ∧ k = 3 ∨ i = 2 ∧ k = 3 := by omega
    all_goals (simp [detM, d3, d2, swapM]; grind)
theorem det_row {n i j : Nat} (m : Mx) (f : Rat) (h4 : n ≤ 4) (hi : i < n) (hj : j < n) (hne : j ≠ i) : detM n (rowM m j i f) = detM n m := by
  obtain rfl | rfl | rfl | rfl : n = 1 ∨ n = 2 ∨ n = 3 ∨ n = 4 := by omega
  · omega
  · obtain ⟨rfl, rfl⟩ | ⟨rfl, rfl⟩ : i = 0 ∧ j = 1 ∨ i = 1 ∧ j = 0 := by omega
    all_goals (simp [detM, d2, rowM]; grind)
  · obtain ⟨rfl, rfl⟩ | ⟨rfl, rfl⟩ | ⟨rfl, rfl⟩ | ⟨rfl, rfl⟩ | ⟨rfl, rfl⟩ | ⟨rfl, rfl⟩ : i = 0 ∧ j = 1 ∨ i = 0 ∧ j = 2 ∨ i = 1 ∧ j = 2 ∨ i = 1 ∧ j = 0 ∨ i = 2 ∧ j = 0 ∨ i = 2 ∧ j = 1 := by omega
    all_goals (simp [detM, d3, d2, rowM]; grind)
  · obtain ⟨rfl, rfl⟩ | ⟨rfl, rfl⟩ | ⟨rfl, rfl⟩ | ⟨rfl, rfl⟩ | ⟨rfl, rfl⟩ | ⟨rfl, rfl⟩ | ⟨rfl, rfl⟩ | ⟨rfl, rfl⟩ | ⟨rfl, rfl⟩ | ⟨rfl, rfl⟩ | ⟨rfl, rfl⟩ | ⟨rfl, rfl⟩ : i = 0 ∧ j = 1 ∨ i = 0 ∧ j = 2 ∨ i = 0 ∧ j = 3 ∨ i = 1 ∧ j = 2 ∨ i = 1 ∧ j = 3 ∨ i = 2 ∧ j = 3 ∨ i = 1 ∧ j = 0 ∨ i = 2 ∧ j = 0 ∨ i = 3 ∧ j = 0 ∨ i = 2 ∧ j = 1 ∨ i = 3 ∧ j = 1 ∨ i = 3 ∧ j = 2 := by omega
    all_goals (simp [detM, d3, d2, rowM]; grind)
theorem det_scale {n : Nat} (m : Mx) (e : Nat → Rat) (h4 : n ≤ 4) : detM n (scaleM m e) = detM n m * prodN e n := by
  obtain rfl | rfl | rfl | rfl | rfl : n = 0 ∨ n = 1 ∨ n = 2 ∨ n = 3 ∨ n = 4 := by omega
  all_goals (simp [detM, d3, d2, scaleM, prodN]; try grind)
/-- nothing stands below the diagonal in the first columns -/
def Tri (n i : Nat) (m : Mx) : Prop := ∀ r c, c < i → c < r → r < n → m r c = 0
theorem det_tri {n : Nat} (m : Mx) (h4 : n ≤ 4) (h : Tri n n m) : detM n m = prodN (fun r => m r r) n := by
  obtain rfl | rfl | rfl | rfl | rfl : n = 0 ∨ n = 1 ∨ n = 2 ∨ n = 3 ∨ n = 4 := by omega
  · rfl
  · simp [detM, prodN]; try grind
  · have a := h 1 0 (by decide) (by decide) (by decide)
    simp [detM, d2, prodN, a]; try grind
  · have a := h 1 0 (by decide) (by decide) (by decide)
    have b := h 2 0 (by decide) (by decide) (by decide)
    have c := h 2 1 (by decide) (by decide) (by decide)
    simp [detM, d3, d2, prodN, a, b, c]; try grind
  · have a := h 1 0 (by decide) (by decide) (by decide)
    have b := h 2 0 (by decide) (by decide) (by decide)
    have c := h 2 1 (by decide) (by decide) (by decide)
    have d := h 3 0 (by decide) (by decide) (by decide)
    have e := h 3 1 (by decide) (by decide) (by decide)
    have f := h 3 2 (by decide) (by decide) (by decide)
    simp [detM, d3, d2, prodN, a, b, c, d, e, f]; try grind
theorem det_none {n i : Nat} (m : Mx) (h4 : n ≤ 4) (hi : i < n) (h : Tri n i m) (hz : ∀ r, i ≤ r → r < n → m r i = 0) : detM n m = 0 := by
  have key : ∀ r c, c ≤ i → r < n → (c < r ∨ c = i ∧ i ≤ r) → m r c = 0 := by
    intro r c hc hr hx
    rcases Nat.lt_or_ge c i with h1 | h1
    · exact h r c h1 (by omega) hr
    · have : c = i := by omega
      subst this
      exact hz r (by omega) hr
  obtain rfl | rfl | rfl | rfl : n = 1 ∨ n = 2 ∨ n = 3 ∨ n = 4 := by omega
  · obtain rfl : i = 0 := by omega
    have a := key 0 0 (by decide) (by decide) (by omega)
    simp [detM, a]
  · obtain rfl | rfl : i = 0 ∨ i = 1 := by omega
    all_goals
      have a := key 1 0 (by decide) (by decide) (by omega)
    · have b := key 0 0 (by decide) (by decide) (by omega)
      simp [detM, d2, a, b]; try grind
    · have b := key 1 1 (by decide) (by decide) (by omega)
      simp [detM, d2, a, b]; try grind
  · obtain rfl | rfl | rfl : i = 0 ∨ i = 1 ∨ i = 2 := by omega
    all_goals
      have a := key 1 0 (by decide) (by decide) (by omega)
      have b := key 2 0 (by decide) (by decide) (by omega)
    · have c := key 0 0 (by decide) (by decide) (by omega)
      simp [detM, d3, d2, a, b, c]; try grind
    · have c := key 1 1 (by decide) (by decide) (by omega)
      have d := key 2 1 (by decide) (by decide) (by omega)
      simp [detM, d3, d2, a, b, c, d]; try grind
    · have c := key 2 1 (by decide) (by decide) (by omega)
      have d := key 2 2 (by decide) (by decide) (by omega)
      simp [detM, d3, d2, a, b, c, d]; try grind
  · obtain rfl | rfl | rfl | rfl : i = 0 ∨ i = 1 ∨ i = 2 ∨ i = 3 := by omega
    all_goals
      have a := key 1 0 (by decide) (by decide) (by omega)
      have b := key 2 0 (by decide) (by decide) (by omega)
      have c := key 3 0 (by decide) (by decide) (by omega)
    · have d := key 0 0 (by decide) (by decide) (by omega)
      simp [detM, d3, d2, a, b, c, d]; try grind
    · have d := key 1 1 (by decide) (by decide) (by omega)
      have e := key 2 1 (by decide) (by decide) (by omega)
      have f := key 3 1 (by decide) (by decide) (by omega)
      simp [detM, d3, d2, a, b, c, d, e, f]; try grind
    · have d := key 2 1 (by decide) (by decide) (by omega)
      have e := key 3 1 (by decide) (by decide) (by omega)
      have f := key 2 2 (by decide) (by decide) (by omega)
      have g := key 3 2 (by decide) (by decide) (by omega)
      simp [detM, d3, d2, a, b, c, d, e, f, g]; try grind
    · have d := key 2 1 (by decide) (by decide) (by omega)
      have e := key 3 1 (by decide) (by decide) (by omega)
      have f := key 3 2 (by decide) (by decide) (by omega)
      have g := key 3 3 (by decide) (by decide) (by omega)
      simp [detM, d3, d2, a, b, c, d, e, f, g]; try grind
end Go.Proofs.YtgponoogifeopaaGreatDoor.Num

/- What elimination keeps: a matrix times its inverse; the determinant of the inverse. Plain: no program. -/
namespace Go.Proofs.YtgponoogifeopaaGreatDoor.Num

theorem sumN_congr {f g : Nat → Rat} : ∀ {n : Nat}, (∀ k, k < n → f k = g k) → sumN f n = sumN g n
  | 0, _ => rfl
  | n + 1, h => by show sumN f n + f n = sumN g n + g n; rw [sumN_congr (fun k hk => h k (by omega)), h n (by omega)]
theorem sumN_zero : ∀ n, sumN (fun _ => 0) n = 0
  | 0 => rfl
  | n + 1 => by show sumN _ n + 0 = 0; rw [sumN_zero n]; grind
theorem sumN_add (f g : Nat → Rat) : ∀ n, sumN (fun k => f k + g k) n = sumN f n + sumN g n
  | 0 => by show (0 : Rat) = 0 + 0; grind
  | n + 1 => by show sumN _ n + (f n + g n) = (sumN f n + f n) + (sumN g n + g n); rw [sumN_add f g n]; grind
theorem sumN_mul (a : Rat) (f : Nat → Rat) : ∀ n, sumN (fun k => a * f k) n = a * sumN f n
  | 0 => by show (0 : Rat) = a * 0; grind
  | n + 1 => by show sumN _ n + a * f n = a * (sumN f n + f n); rw [sumN_mul a f n]; grind
theorem sumN_swap (f : Nat → Nat → Rat) (m : Nat) : ∀ n, sumN (fun k => sumN (fun l => f k l) m) n = sumN (fun l => sumN (fun k => f k l) n) m
  | 0 => by show (0 : Rat) = sumN (fun _ => 0) m; rw [sumN_zero]
  | n + 1 => by
    show sumN _ n + sumN (fun l => f n l) m = sumN (fun l => sumN (fun k => f k l) n + f n l) m
    rw [sumN_swap f m n, sumN_add]
/-- one term stands out -/
theorem sumN_one {f : Nat → Rat} {i : Nat} : ∀ {n : Nat}, i < n → (∀ k, k < n → k ≠ i → f k = 0) → sumN f n = f i
  | 0, h, _ => by omega
  | n + 1, h, hz => by
    show sumN f n + f n = f i
    by_cases e : i = n
    · subst e
      rw [sumN_congr (g := fun _ => 0) (fun k hk => hz k (by omega) (by omega)), sumN_zero]; grind
    · rw [sumN_one (by omega) (fun k hk hne => hz k (by omega) hne), hz n (by omega) (fun h => e h.symm)]; grind
theorem mulM_assoc (n : Nat) (a b c : Mx) (r s : Nat) : mulM n (mulM n a b) c r s = mulM n a (mulM n b c) r s := by
  unfold mulM
  rw [sumN_congr (g := fun k => sumN (fun l => a r l * b l k * c k s) n) (fun k _ => by
    rw [show sumN (fun l => a r l * b l k) n * c k s = c k s * sumN (fun l => a r l * b l k) n from Rat.mul_comm _ _, ← sumN_mul]
    exact sumN_congr (fun l _ => by grind)), sumN_swap]
  refine sumN_congr (fun l _ => ?_)
  rw [← sumN_mul]
  exact sumN_congr (fun k _ => by grind)

/-- columns turned back -/
def swapC (p : Mx) (i k : Nat) : Mx := fun r c => if c = i then p r k else if c = k then p r i else p r c
def colC (p : Mx) (j i : Nat) (f : Rat) : Mx := fun r c => if c = i then p r i + f * p r j else p r c
theorem mul_swap {n i k : Nat} (p m : Mx) (h4 : n ≤ 4) (hi : i < k) (hk : k < n) (r c : Nat) : mulM n (swapC p i k) (swapM m i k) r c = mulM n p m r c := by
  obtain rfl | rfl | rfl | rfl : n = 1 ∨ n = 2 ∨ n = 3 ∨ n = 4 := by omega
  · omega
  · obtain ⟨rfl, rfl⟩ : i = 0 ∧ k = 1 := by omega
    simp [mulM, sumN, swapM, swapC]; grind
  · obtain ⟨rfl, rfl⟩ | ⟨rfl, rfl⟩ | ⟨rfl, rfl⟩ : i = 0 ∧ k = 1 ∨ i = 0 ∧ k = 2 ∨ i = 1 ∧ k = 2 := by omega
    all_goals (simp [mulM, sumN, swapM, swapC]; grind)
  · obtain ⟨rfl, rfl⟩ | ⟨rfl, rfl⟩ | ⟨rfl, rfl⟩ | ⟨rfl, rfl⟩ | ⟨rfl, rfl⟩ | ⟨rfl, rfl⟩ : i = 0 ∧ k = 1 ∨ i = 0 ∧ k = 2 ∨ i = 0 ∧ k = 3 ∨ i = 1 ∧ k = 2 ∨ i = 1 ∧ k = 3 ∨ i = 2 ∧ k = 3 := by omega
    all_goals (simp [mulM, sumN, swapM, swapC]; grind)
theorem mul_row {n i j : Nat} (p m : Mx) (f : Rat) (h4 : n ≤ 4) (hi : i < n) (hj : j < n) (hne : j ≠ i) (r c : Nat) : mulM n (colC p j i f) (rowM m j i f) r c = mulM n p m r c := by
  obtain rfl | rfl | rfl | rfl : n = 1 ∨ n = 2 ∨ n = 3 ∨ n = 4 := by omega
  · omega
  · obtain ⟨rfl, rfl⟩ | ⟨rfl, rfl⟩ : i = 0 ∧ j = 1 ∨ i = 1 ∧ j = 0 := by omega
    all_goals (simp [mulM, sumN, rowM, colC]; grind)
  · obtain ⟨rfl, rfl⟩ | ⟨rfl, rfl⟩ | ⟨rfl, rfl⟩ | ⟨rfl, rfl⟩ | ⟨rfl, rfl⟩ | ⟨rfl, rfl⟩ : i = 0 ∧ j = 1 ∨ i = 0 ∧ j = 2 ∨ i = 1 ∧ j = 2 ∨ i = 1 ∧ j = 0 ∨ i = 2 ∧ j = 0 ∨ i = 2 ∧ j = 1 := by omega
    all_goals (simp [mulM, sumN, rowM, colC]; grind)
  · obtain ⟨rfl, rfl⟩ | ⟨rfl, rfl⟩ | ⟨rfl, rfl⟩ | ⟨rfl, rfl⟩ | ⟨rfl, rfl⟩ | ⟨rfl, rfl⟩ | ⟨rfl, rfl⟩ | ⟨rfl, rfl⟩ | ⟨rfl, rfl⟩ | ⟨rfl, rfl⟩ | ⟨rfl, rfl⟩ | ⟨rfl, rfl⟩ : i = 0 ∧ j = 1 ∨ i = 0 ∧ j = 2 ∨ i = 0 ∧ j = 3 ∨ i = 1 ∧ j = 2 ∨ i = 1 ∧ j = 3 ∨ i = 2 ∧ j = 3 ∨ i = 1 ∧ j = 0 ∨ i = 2 ∧ j = 0 ∨ i = 3 ∧ j = 0 ∨ i = 2 ∧ j = 1 ∨ i = 3 ∧ j = 1 ∨ i = 3 ∧ j = 2 := by omega
    all_goals (simp [mulM, sumN, rowM, colC]; grind)

/-- what elimination keeps of the matrix M: s is the sign of the swaps, d the product of the pivots and s -/
structure Elim (n : Nat) (M m out : Mx) (s : Rat) : Prop where
  sgn : s * s = 1
  det : detM n m = s * detM n M
  dout : detM n out = s
  inv : ∃ P : Mx, (∀ r c, r < n → c < n → mulM n P m r c = M r c) ∧ ∀ r c, r < n → c < n → mulM n P out r c = unitM r c
theorem Elim.start {n : Nat} (M : Mx) (h0 : 1 ≤ n) (h4 : n ≤ 4) : Elim n M M unitM 1 := by
  refine ⟨by grind, by grind, det_unit h0 h4, unitM, fun r c hr hc => ?_, fun r c hr hc => ?_⟩
  · unfold mulM
    rw [sumN_one (i := r) hr (fun k _ hk => by unfold unitM; rw [if_neg (fun e => hk e.symm)]; grind)]
    unfold unitM; rw [if_pos rfl]; grind
  · unfold mulM
    rw [sumN_one (i := r) hr (fun k _ hk => by unfold unitM; rw [if_neg (fun e => hk e.symm)]; grind)]
    show (if r = r then (1 : Rat) else 0) * unitM r c = _
    rw [if_pos rfl]; grind
theorem Elim.swap {n : Nat} {M m out : Mx} {s : Rat} (h : Elim n M m out s) (h4 : n ≤ 4) {i k : Nat} (hi : i < k) (hk : k < n) : Elim n M (swapM m i k) (swapM out i k) (-s) := by
  obtain ⟨a, b, c, P, p1, p2⟩ := h
  exact ⟨by grind, by rw [det_swap m h4 hi hk, b]; grind, by rw [det_swap out h4 hi hk, c], swapC P i k, fun r c hr hc => by rw [mul_swap P m h4 hi hk]; exact p1 r c hr hc, fun r c hr hc => by rw [mul_swap P out h4 hi hk]; exact p2 r c hr hc⟩
theorem Elim.row {n : Nat} {M m out : Mx} {s : Rat} (h : Elim n M m out s) (h4 : n ≤ 4) {i j : Nat} (f : Rat) (hi : i < n) (hj : j < n) (hne : j ≠ i) : Elim n M (rowM m j i f) (rowM out j i f) s := by
  obtain ⟨a, b, c, P, p1, p2⟩ := h
  exact ⟨a, by rw [det_row m f h4 hi hj hne, b], by rw [det_row out f h4 hi hj hne, c], colC P j i f, fun r c hr hc => by rw [mul_row P m f h4 hi hj hne]; exact p1 r c hr hc, fun r c hr hc => by rw [mul_row P out f h4 hi hj hne]; exact p2 r c hr hc⟩
/-- the matrix has turned to a diagonal -/
def Dia (n : Nat) (m : Mx) : Prop := ∀ r c, r < n → c < n → r ≠ c → m r c = 0
theorem Elim.inverse {n : Nat} {M m out : Mx} {s : Rat} (h : Elim n M m out s) (hd : Dia n m) (hz : ∀ r, r < n → m r r ≠ 0) (r c : Nat) (hr : r < n) (hc : c < n) : mulM n M (fun r c => out r c / m r r) r c = unitM r c := by
  obtain ⟨a, b, c', P, p1, p2⟩ := h
  rw [← p2 r c hr hc]
  unfold mulM
  refine sumN_congr (fun k hk => ?_)
  have e : M r k = P r k * m k k := by
    rw [← p1 r k hr hk]
    unfold mulM
    exact sumN_one hk (fun l hl hne => by rw [hd l k hl hk hne]; grind)
  have := hz k hk
  show M r k * (out k c / m k k) = _
  rw [e]; grind
theorem prodN_ne {f : Nat → Rat} : ∀ {n : Nat}, (∀ k, k < n → f k ≠ 0) → prodN f n ≠ 0
  | 0, _ => by show (1 : Rat) ≠ 0; decide
  | n + 1, h => by
    show prodN f n * f n ≠ 0
    have h1 := prodN_ne (n := n) (fun k hk => h k (by omega))
    have h2 := h n (by omega)
    intro e
    rcases Rat.mul_eq_zero.1 e with e | e
    · exact h1 e
    · exact h2 e
theorem prodN_inv {f : Nat → Rat} : ∀ {n : Nat}, (∀ k, k < n → f k ≠ 0) → prodN f n * prodN (fun k => (f k)⁻¹) n = 1
  | 0, _ => by show (1 : Rat) * 1 = 1; grind
  | n + 1, h => by
    show prodN f n * f n * (prodN (fun k => (f k)⁻¹) n * (f n)⁻¹) = 1
    have h1 := prodN_inv (n := n) (f := f) (fun k hk => h k (by omega))
    have h2 := h n (by omega)
    have h3 : f n * (f n)⁻¹ = 1 := Rat.mul_inv_cancel _ h2
    grind
theorem dia_tri {n : Nat} {m : Mx} (h : Dia n m) : Tri n n m := fun r c _ hcr hr => h r c hr (by omega) (by omega)
/-- the determinant of the inverse -/
theorem Elim.det_inv {n : Nat} {M m out : Mx} {s : Rat} (h : Elim n M m out s) (h4 : n ≤ 4) (hd : Dia n m) (hz : ∀ r, r < n → m r r ≠ 0) : detM n M * detM n (fun r c => out r c / m r r) = 1 := by
  have e1 : (fun r c => out r c / m r r : Mx) = scaleM out (fun r => (m r r)⁻¹) := by
    funext r c
    show out r c / m r r = out r c * (m r r)⁻¹
    rw [Rat.div_def]
  rw [e1, det_scale _ _ h4, h.dout]
  have h1 := det_tri m h4 (dia_tri hd)
  have h2 := h.det
  have h3 := h.sgn
  have h5 := prodN_inv (f := fun r => m r r) hz
  grind
end Go.Proofs.YtgponoogifeopaaGreatDoor.Num

/- Elimination step by step: what is kept, how long the fractions are. Plain: no program. -/
namespace Go.Proofs.YtgponoogifeopaaGreatDoor.Num

/-- the rows ahead of j have been cleared in column i of m; x is m itself, or what turns with it -/
def rowsM (inv : Bool) (i : Nat) (m x : Mx) (j : Nat) : Mx := fun r c => if r < j ∧ r ≠ i ∧ (inv = true ∨ i < r) then x r c - m r i / m i i * x i c else x r c
theorem rowsM_zero (inv : Bool) (i : Nat) (m x : Mx) : rowsM inv i m x 0 = x := by
  funext r c
  unfold rowsM
  rw [if_neg (by omega)]
theorem rowsM_skip (inv : Bool) (i : Nat) (m x : Mx) {j : Nat} (h : ¬ (j ≠ i ∧ (inv = true ∨ i < j))) : rowsM inv i m x (j + 1) = rowsM inv i m x j := by
  funext r c
  unfold rowsM
  by_cases h1 : r < j ∧ r ≠ i ∧ (inv = true ∨ i < r)
  · rw [if_pos h1, if_pos ⟨by omega, h1.2⟩]
  · rw [if_neg h1, if_neg]
    rintro ⟨h2, h3⟩
    by_cases e : r = j
    · subst e; exact h h3
    · exact h1 ⟨by omega, h3⟩
theorem rowsM_row (inv : Bool) (i : Nat) (m x : Mx) {j : Nat} (h : j ≠ i ∧ (inv = true ∨ i < j)) : rowsM inv i m x (j + 1) = rowM (rowsM inv i m x j) j i (m j i / m i i) := by
  funext r c
  unfold rowM rowsM
  by_cases e : r = j
  · subst e
    rw [if_pos ⟨by omega, h⟩, if_pos rfl, if_neg (by omega), if_neg (by omega)]
  · rw [if_neg e]
    by_cases h1 : r < j ∧ r ≠ i ∧ (inv = true ∨ i < r)
    · rw [if_pos h1, if_pos ⟨by omega, h1.2⟩]
    · rw [if_neg h1, if_neg]
      rintro ⟨h2, h3⟩
      exact h1 ⟨by omega, h3⟩
/-- a row that is 0 in the column stays as it is -/
theorem rowsM_none (inv : Bool) (i : Nat) (m x : Mx) {j : Nat} (h : m j i = 0) : rowsM inv i m x (j + 1) = rowsM inv i m x j := by
  by_cases hj : j ≠ i ∧ (inv = true ∨ i < j)
  · rw [rowsM_row inv i m x hj, h]
    funext r c
    unfold rowM
    by_cases e : r = j
    · subst e
      rw [if_pos rfl, Rat.div_def, Rat.zero_mul, Rat.zero_mul]; grind
    · rw [if_neg e]
  · exact rowsM_skip inv i m x hj
theorem Elim.rows {n : Nat} {M m out : Mx} {s : Rat} (h : Elim n M m out s) (h4 : n ≤ 4) {i : Nat} (hi : i < n) : ∀ j, j ≤ n → Elim n M (rowsM true i m m j) (rowsM true i m out j) s
  | 0, _ => by rw [rowsM_zero, rowsM_zero]; exact h
  | j + 1, hj => by
    have ih := h.rows h4 hi j (by omega)
    by_cases e : j ≠ i ∧ (true = true ∨ i < j)
    · rw [rowsM_row true i m m e, rowsM_row true i m out e]
      exact ih.row h4 _ hi (by omega) e.1
    · rw [rowsM_skip true i m m e, rowsM_skip true i m out e]; exact ih
theorem det_rows {n : Nat} (m : Mx) (h4 : n ≤ 4) {i : Nat} (hi : i < n) : ∀ j, j ≤ n → detM n (rowsM false i m m j) = detM n m
  | 0, _ => by rw [rowsM_zero]
  | j + 1, hj => by
    have ih := det_rows m h4 hi j (by omega)
    by_cases e : j ≠ i ∧ (false = true ∨ i < j)
    · rw [rowsM_row false i m m e, det_row _ _ h4 hi (by omega) e.1, ih]
    · rw [rowsM_skip false i m m e, ih]

/-- all numbers of a matrix, each D times, are at most A over B -/
def BdM (n : Nat) (D : Rat) (A B : Nat) (m : Mx) : Prop := ∀ r c, r < n → c < n → Sm (D * m r c) A B
theorem BdM.mono {n : Nat} {D : Rat} {A B A' B' : Nat} {m : Mx} (h : BdM n D A B m) (h1 : A ≤ A') (h2 : B ≤ B') : BdM n D A' B' m := fun r c hr hc => (h r c hr hc).mono h1 h2
theorem BdM.swap {n : Nat} {D : Rat} {A B : Nat} {m : Mx} (h : BdM n D A B m) {i k : Nat} (hi : i < n) (hk : k < n) : BdM n D A B (swapM m i k) := by
  intro r c hr hc
  unfold swapM
  by_cases e : r = i
  · rw [if_pos e]; exact h k c hk hc
  · rw [if_neg e]
    by_cases e : r = k
    · rw [if_pos e]; exact h i c hi hc
    · rw [if_neg e]; exact h r c hr hc
theorem BdM.quot {n : Nat} {D : Rat} {A B : Nat} {m : Mx} (h : BdM n D A B m) (hD : D ≠ 0) {i r : Nat} (hi : i < n) (hr : r < n) (hz : m i i ≠ 0) : Sm (m r i / m i i) (A * B) (B * A) := by
  have h1 := h r i hr hi
  have h2 := h i i hi hi
  have h3 : D * m i i ≠ 0 := fun e => by
    rcases Rat.mul_eq_zero.1 e with e | e
    · exact hD e
    · exact hz e
  have h4 := h1.div h2 h3
  have e : D * m r i / (D * m i i) = m r i / m i i := by
    rw [Rat.div_def, Rat.div_def]
    have e1 : D * m i i * (D * m i i)⁻¹ = 1 := Rat.mul_inv_cancel _ h3
    have e2 : m i i * (m i i)⁻¹ = 1 := Rat.mul_inv_cancel _ hz
    have e3 : D * D⁻¹ = 1 := Rat.mul_inv_cancel _ hD
    grind
  rw [e] at h4
  exact h4
theorem Sm.one_le {q : Rat} {A B : Nat} (h : Sm q A B) : 1 ≤ B := by
  obtain ⟨a, b, hb, _, _, h⟩ := h
  omega
/-- the product and the difference that a step makes, at a row of m or of what turns with it -/
theorem BdM.term {n : Nat} {D E : Rat} {A B C F : Nat} {m x : Mx} (h : BdM n D A B m) (k : BdM n E C F x) (hD : D ≠ 0) {i r c : Nat} (hi : i < n) (hr : r < n) (hc : c < n) (hz : m i i ≠ 0) :
    Sm (E * (m r i / m i i * x i c)) (A * B * C) (B * A * F) ∧ Sm (E * (x r c - m r i / m i i * x i c)) (C * (B * A * F) + A * B * C * F) (F * (B * A * F)) := by
  have h1 := h.quot hD hi hr hz
  have h2 := h1.mul (k i c hi hc)
  have h3 := (k r c hr hc).sub h2
  have e1 : m r i / m i i * (E * x i c) = E * (m r i / m i i * x i c) := by grind
  have e2 : E * x r c - E * (m r i / m i i * x i c) = E * (x r c - m r i / m i i * x i c) := by grind
  rw [e1] at h2 h3
  rw [e2] at h3
  exact ⟨h2, h3⟩
theorem BdM.rows {n : Nat} {D E : Rat} {A B C F : Nat} {m x : Mx} (h : BdM n D A B m) (k : BdM n E C F x) (hD : D ≠ 0) {i : Nat} (hi : i < n) (hz : m i i ≠ 0) (hA : 1 ≤ A) (inv : Bool) (j : Nat) : BdM n E (C * (B * A * F) + A * B * C * F) (F * (B * A * F)) (rowsM inv i m x j) := by
  intro r c hr hc
  unfold rowsM
  have hB := (h i i hi hi).one_le
  have hF := (k i i hi hi).one_le
  have h1 : 1 ≤ B * A := Nat.mul_pos hB hA
  have h2 : 1 ≤ B * A * F := Nat.mul_pos h1 hF
  by_cases e : r < j ∧ r ≠ i ∧ (inv = true ∨ i < r)
  · rw [if_pos e]; exact (h.term k hD hi hr hc hz).2
  · rw [if_neg e]
    exact (k r c hr hc).mono (Nat.le_trans (Nat.le_mul_of_pos_right _ h2) (Nat.le_add_right _ _)) (Nat.le_mul_of_pos_right _ h2)

/-- cofactors -/
def skipN (k i : Nat) : Nat := if i < k then i else i + 1
def sgnN (k : Nat) : Rat := if k % 2 = 0 then 1 else -1
def adjM : Nat → Mx → Mx
  | 1, _ => fun _ _ => 1
  | 2, m => fun r c => sgnN (r + c) * m (skipN c 0) (skipN r 0)
  | 3, m => fun r c => sgnN (r + c) * d2 m (skipN c 0) (skipN c 1) (skipN r 0) (skipN r 1)
  | 4, m => fun r c => sgnN (r + c) * d3 m (skipN c 0) (skipN c 1) (skipN c 2) (skipN r 0) (skipN r 1) (skipN r 2)
  | _, _ => fun _ _ => 0
theorem sgn0 : sgnN 0 = 1 := if_pos rfl
theorem sgn1 : sgnN 1 = -1 := if_neg (by decide)
theorem sgn2 : sgnN 2 = 1 := if_pos rfl
theorem sgn3 : sgnN 3 = -1 := if_neg (by decide)
theorem sgn4 : sgnN 4 = 1 := if_pos rfl
theorem sgn5 : sgnN 5 = -1 := if_neg (by decide)
theorem sgn6 : sgnN 6 = 1 := if_pos rfl
theorem skips : skipN 0 0 = 1 ∧ skipN 0 1 = 2 ∧ skipN 0 2 = 3 ∧ skipN 1 0 = 0 ∧ skipN 1 1 = 2 ∧ skipN 1 2 = 3 ∧ skipN 2 0 = 0 ∧ skipN 2 1 = 1 ∧ skipN 2 2 = 3 ∧ skipN 3 0 = 0 ∧ skipN 3 1 = 1 ∧ skipN 3 2 = 2 := by decide
theorem adj2 (m : Mx) (r c : Nat) : adjM 2 m r c = sgnN (r + c) * m (skipN c 0) (skipN r 0) := rfl
theorem adj3 (m : Mx) (r c : Nat) : adjM 3 m r c = sgnN (r + c) * d2 m (skipN c 0) (skipN c 1) (skipN r 0) (skipN r 1) := rfl
theorem adj4 (m : Mx) (r c : Nat) : adjM 4 m r c = sgnN (r + c) * d3 m (skipN c 0) (skipN c 1) (skipN c 2) (skipN r 0) (skipN r 1) (skipN r 2) := rfl
theorem det2 (m : Mx) : detM 2 m = d2 m 0 1 0 1 := rfl
theorem det3 (m : Mx) : detM 3 m = d3 m 0 1 2 0 1 2 := rfl
theorem det4 (m : Mx) : detM 4 m = m 0 0 * d3 m 1 2 3 1 2 3 - m 0 1 * d3 m 1 2 3 0 2 3 + m 0 2 * d3 m 1 2 3 0 1 3 - m 0 3 * d3 m 1 2 3 0 1 2 := rfl
theorem unit_same (r : Nat) : unitM r r = 1 := if_pos rfl
theorem unit_other {r c : Nat} (h : r ≠ c) : unitM r c = 0 := if_neg h
set_option linter.unusedSimpArgs false in
theorem adj_mul {n : Nat} (m : Mx) (h4 : n ≤ 4) {r c : Nat} (hr : r < n) (hc : c < n) : mulM n (adjM n m) m r c = detM n m * unitM r c := by
  obtain rfl | rfl | rfl | rfl : n = 1 ∨ n = 2 ∨ n = 3 ∨ n = 4 := by omega
  · obtain ⟨rfl, rfl⟩ : r = 0 ∧ c = 0 := by omega
    show 0 + 1 * m 0 0 = m 0 0 * unitM 0 0
    rw [unit_same]; grind
  · obtain rfl | rfl : r = 0 ∨ r = 1 := by omega
    all_goals obtain rfl | rfl : c = 0 ∨ c = 1 := by omega
    all_goals
      first | rw [unit_same] | rw [unit_other (by decide)]
      simp only [mulM, sumN, adj2, det2, Nat.reduceAdd, sgn0, sgn1, sgn2, skips]
      simp only [d2]
      grind
  · obtain rfl | rfl | rfl : r = 0 ∨ r = 1 ∨ r = 2 := by omega
    all_goals obtain rfl | rfl | rfl : c = 0 ∨ c = 1 ∨ c = 2 := by omega
    all_goals
      first | rw [unit_same] | rw [unit_other (by decide)]
      simp only [mulM, sumN, adj3, det3, Nat.reduceAdd, sgn0, sgn1, sgn2, sgn3, sgn4, skips]
      simp only [d3, d2]
      grind
  · obtain rfl | rfl | rfl | rfl : r = 0 ∨ r = 1 ∨ r = 2 ∨ r = 3 := by omega
    all_goals obtain rfl | rfl | rfl | rfl : c = 0 ∨ c = 1 ∨ c = 2 ∨ c = 3 := by omega
    all_goals
      first | rw [unit_same] | rw [unit_other (by decide)]
      simp only [mulM, sumN, adj4, det4, Nat.reduceAdd, sgn0, sgn1, sgn2, sgn3, sgn4, sgn5, sgn6, skips]
      simp only [d3, d2]
      grind
/-- a right inverse is the cofactors over the determinant -/
theorem inv_adj {n : Nat} {M W : Mx} (h4 : n ≤ 4) (h : ∀ r c, r < n → c < n → mulM n M W r c = unitM r c) {r c : Nat} (hr : r < n) (hc : c < n) : detM n M * W r c = adjM n M r c := by
  have h1 : mulM n (mulM n (adjM n M) M) W r c = detM n M * W r c := by
    unfold mulM
    rw [sumN_one (i := r) hr (fun k hk hne => by
      have := adj_mul M h4 hr hk
      unfold mulM at this
      rw [this]; unfold unitM; rw [if_neg (fun e => hne e.symm)]; grind)]
    have := adj_mul M h4 hr hr
    unfold mulM at this
    rw [this]; unfold unitM; rw [if_pos rfl]; grind
  have h2 : mulM n (adjM n M) (mulM n M W) r c = adjM n M r c := by
    unfold mulM
    rw [sumN_one (i := c) hc (fun k hk hne => by
      have := h k c hk hc
      unfold mulM at this
      rw [this]; unfold unitM; rw [if_neg hne]; grind)]
    have := h c c hc hc
    unfold mulM at this
    rw [this]; unfold unitM; rw [if_pos rfl]; grind
  rw [← h1, mulM_assoc, h2]
theorem sm_d2 {m : Mx} {A a b x y : Nat} (h : ∀ r c, r < 4 → c < 4 → Sm (m r c) A 1) (ha : a < 4) (hb : b < 4) (hx : x < 4) (hy : y < 4) : Sm (d2 m a b x y) (2 * (A * A)) 1 :=
  (((h a x ha hx).mul (h b y hb hy)).sub ((h a y ha hy).mul (h b x hb hx))).mono (by omega) (by omega)
theorem sm_d3 {m : Mx} {A a b c x y z : Nat} (h : ∀ r c, r < 4 → c < 4 → Sm (m r c) A 1) (ha : a < 4) (hb : b < 4) (hc : c < 4) (hx : x < 4) (hy : y < 4) (hz : z < 4) : Sm (d3 m a b c x y z) (6 * (A * (A * A))) 1 := by
  have h1 := (h a x ha hx).mul (sm_d2 h hb hc hy hz)
  have h2 := (h a y ha hy).mul (sm_d2 h hb hc hx hz)
  have h3 := (h a z ha hz).mul (sm_d2 h hb hc hx hy)
  have e : A * (2 * (A * A)) = 2 * (A * (A * A)) := by rw [Nat.mul_left_comm]
  rw [e] at h1 h2 h3
  exact ((h1.sub h2).add h3).mono (by omega) (by omega)
theorem sm_sgn {q : Rat} {A B : Nat} (k : Nat) (h : Sm q A B) : Sm (sgnN k * q) A B := by
  unfold sgnN
  split
  · rw [Rat.one_mul]; exact h
  · have e : (-1 : Rat) * q = -q := by grind
    rw [e]; exact h.neg
theorem skip_lt {k i : Nat} (h : i < 3) : skipN k i < 4 := by unfold skipN; split <;> omega
theorem adj_sm {n : Nat} {m : Mx} (h4 : n ≤ 4) (h1 : 1 ≤ n) {A : Nat} (hA : 1 ≤ A) (h : ∀ r c, r < 4 → c < 4 → Sm (m r c) A 1) (r c : Nat) : Sm (adjM n m r c) (6 * (A * (A * A))) 1 := by
  have hAA : A ≤ A * A := Nat.le_mul_of_pos_right _ hA
  have hAAA : A * A ≤ A * (A * A) := Nat.le_mul_of_pos_left _ hA
  obtain rfl | rfl | rfl | rfl : n = 1 ∨ n = 2 ∨ n = 3 ∨ n = 4 := by omega
  · exact (Sm.int 1 (A := 1) (by decide)).mono (by omega) (Nat.le_refl _)
  · exact (sm_sgn _ (h _ _ (skip_lt (by decide)) (skip_lt (by decide)))).mono (by omega) (Nat.le_refl _)
  · exact (sm_sgn _ (sm_d2 h (skip_lt (by decide)) (skip_lt (by decide)) (skip_lt (by decide)) (skip_lt (by decide)))).mono (by omega) (Nat.le_refl _)
  · exact sm_sgn _ (sm_d3 h (skip_lt (by decide)) (skip_lt (by decide)) (skip_lt (by decide)) (skip_lt (by decide)) (skip_lt (by decide)) (skip_lt (by decide)))
theorem det_sm {n : Nat} {m : Mx} (h4 : n ≤ 4) (h1 : 1 ≤ n) {A : Nat} (hA : 1 ≤ A) (h : ∀ r c, r < 4 → c < 4 → Sm (m r c) A 1) : Sm (detM n m) (24 * (A * (A * (A * A)))) 1 := by
  have hAA : A ≤ A * A := Nat.le_mul_of_pos_right _ hA
  have hAAA : A * A ≤ A * (A * A) := Nat.le_mul_of_pos_left _ hA
  have hA4 : A * (A * A) ≤ A * (A * (A * A)) := Nat.le_mul_of_pos_left _ hA
  obtain rfl | rfl | rfl | rfl : n = 1 ∨ n = 2 ∨ n = 3 ∨ n = 4 := by omega
  · exact (h 0 0 (by decide) (by decide)).mono (by omega) (Nat.le_refl _)
  · exact (sm_d2 h (by decide) (by decide) (by decide) (by decide)).mono (by omega) (Nat.le_refl _)
  · exact (sm_d3 h (by decide) (by decide) (by decide) (by decide) (by decide) (by decide)).mono (by omega) (Nat.le_refl _)
  · have k1 := (h 0 0 (by decide) (by decide)).mul (sm_d3 h (a := 1) (b := 2) (c := 3) (x := 1) (y := 2) (z := 3) (by decide) (by decide) (by decide) (by decide) (by decide) (by decide))
    have k2 := (h 0 1 (by decide) (by decide)).mul (sm_d3 h (a := 1) (b := 2) (c := 3) (x := 0) (y := 2) (z := 3) (by decide) (by decide) (by decide) (by decide) (by decide) (by decide))
    have k3 := (h 0 2 (by decide) (by decide)).mul (sm_d3 h (a := 1) (b := 2) (c := 3) (x := 0) (y := 1) (z := 3) (by decide) (by decide) (by decide) (by decide) (by decide) (by decide))
    have k4 := (h 0 3 (by decide) (by decide)).mul (sm_d3 h (a := 1) (b := 2) (c := 3) (x := 0) (y := 1) (z := 2) (by decide) (by decide) (by decide) (by decide) (by decide) (by decide))
    have e : A * (6 * (A * (A * A))) = 6 * (A * (A * (A * A))) := by rw [Nat.mul_left_comm]
    rw [e] at k1 k2 k3 k4
    exact (((k1.sub k2).add k3).sub k4).mono (by omega) (by omega)
end Go.Proofs.YtgponoogifeopaaGreatDoor.Num

/- What elimination has done ahead of column i. Plain: no program. -/
namespace Go.Proofs.YtgponoogifeopaaGreatDoor.Num

/-- ahead of column i: m comes of M by row operations, out of the unit matrix by the same (where the inverse is wanted); s: the sign of the swaps; d: the program's own determinant so far -/
structure ElSt (inv : Bool) (n i : Nat) (M m out : Mx) (s d : Rat) : Prop where
  el : inv = true → Elim n M m out s
  sgn : s * s = 1
  det : detM n m = s * detM n M
  dd : d = s * prodN (fun r => m r r) i
  piv : ∀ r, r < i → m r r ≠ 0
  tri : Tri n i m
  dia : inv = true → ∀ r c, r < n → c < i → r ≠ c → m r c = 0
theorem prodN_congr {f g : Nat → Rat} : ∀ {n : Nat}, (∀ k, k < n → f k = g k) → prodN f n = prodN g n
  | 0, _ => rfl
  | n + 1, h => by show prodN f n * f n = prodN g n * g n; rw [prodN_congr (fun k hk => h k (by omega)), h n (by omega)]
theorem ElSt.start (inv : Bool) {n : Nat} (M : Mx) (h1 : 1 ≤ n) (h4 : n ≤ 4) : ElSt inv n 0 M M unitM 1 1 :=
  ⟨fun _ => Elim.start M h1 h4, by grind, by grind, by show (1 : Rat) = 1 * 1; grind, fun r h => absurd h (Nat.not_lt_zero _), fun r c h => absurd h (Nat.not_lt_zero _), fun _ r c _ h => absurd h (Nat.not_lt_zero _)⟩
theorem swapM_low {m : Mx} {i k r : Nat} (hi : r < i) (hk : i < k) : swapM m i k r = m r := by
  unfold swapM; rw [if_neg (by omega), if_neg (by omega)]
theorem ElSt.swap {inv : Bool} {n i : Nat} {M m out : Mx} {s d : Rat} (h : ElSt inv n i M m out s d) (h4 : n ≤ 4) {k : Nat} (hi : i < k) (hk : k < n) : ElSt inv n i M (swapM m i k) (swapM out i k) (-s) (-d) := by
  refine ⟨fun e => (h.el e).swap h4 hi hk, by have := h.sgn; grind, by rw [det_swap m h4 hi hk, h.det]; grind, ?_, fun r hr => ?_, ?_, fun e r c hr hc hne => ?_⟩
  · rw [h.dd, prodN_congr (f := fun r => swapM m i k r r) (g := fun r => m r r) (fun r hr => by show swapM m i k r r = m r r; rw [swapM_low hr hi])]; grind
  · rw [swapM_low hr hi]; exact h.piv r hr
  · intro r c hc hcr hr
    unfold swapM
    by_cases e : r = i
    · rw [if_pos e]; exact h.tri k c hc (by omega) hk
    · rw [if_neg e]
      by_cases e2 : r = k
      · rw [if_pos e2]; exact h.tri i c hc (by omega) (by omega)
      · rw [if_neg e2]; exact h.tri r c hc hcr hr
  · unfold swapM
    by_cases e1 : r = i
    · rw [if_pos e1]; exact h.dia e k c hk hc (by omega)
    · rw [if_neg e1]
      by_cases e2 : r = k
      · rw [if_pos e2]; exact h.dia e i c (by omega) hc (by omega)
      · rw [if_neg e2]; exact h.dia e r c hr hc hne
theorem rowsM_at {inv : Bool} {i : Nat} {m x : Mx} {n r c : Nat} (h : r < n ∧ r ≠ i ∧ (inv = true ∨ i < r)) : rowsM inv i m x n r c = x r c - m r i / m i i * x i c := if_pos h
theorem rowsM_of {inv : Bool} {i : Nat} {m x : Mx} {n r c : Nat} (h : ¬ (r < n ∧ r ≠ i ∧ (inv = true ∨ i < r))) : rowsM inv i m x n r c = x r c := if_neg h
theorem rat_div_self {a : Rat} (h : a ≠ 0) (b : Rat) : b - b / a * a = 0 := by rw [Rat.div_mul_cancel h]; grind
theorem ElSt.next {inv : Bool} {n i : Nat} {M m out : Mx} {s d : Rat} (h : ElSt inv n i M m out s d) (h4 : n ≤ 4) (hi : i < n) (hz : m i i ≠ 0) : ElSt inv n (i + 1) M (rowsM inv i m m n) (if inv = true then rowsM true i m out n else out) s (d * m i i) := by
  have hii : ∀ c, rowsM inv i m m n i c = m i c := fun c => rowsM_of (by omega)
  -- a row ahead of i: its own pivot stays, since the pivot's row is 0 there
  have low : ∀ r, r < i → rowsM inv i m m n r r = m r r := by
    intro r hr
    by_cases e : r < n ∧ r ≠ i ∧ (inv = true ∨ i < r)
    · rw [rowsM_at e, h.tri i r hr hr hi, Rat.mul_zero]; grind
    · exact rowsM_of e
  refine ⟨fun e => ?_, h.sgn, ?_, ?_, fun r hr => ?_, ?_, fun e r c hr hc hne => ?_⟩
  · subst e
    rw [if_pos rfl]
    exact (h.el rfl).rows h4 hi n (Nat.le_refl _)
  · cases inv with
    | true => exact ((h.el rfl).rows h4 hi n (Nat.le_refl _)).det
    | false => rw [det_rows m h4 hi n (Nat.le_refl _)]; exact h.det
  · show d * m i i = s * (prodN (fun r => rowsM inv i m m n r r) i * rowsM inv i m m n i i)
    rw [hii, h.dd, prodN_congr (f := fun r => rowsM inv i m m n r r) (g := fun r => m r r) (fun r hr => low r hr)]; grind
  · by_cases e : r = i
    · subst e; rw [hii]; exact hz
    · rw [low r (by omega)]; exact h.piv r (by omega)
  · intro r c hc hcr hr
    by_cases e : r < n ∧ r ≠ i ∧ (inv = true ∨ i < r)
    · rw [rowsM_at e]
      by_cases ec : c = i
      · subst ec; exact rat_div_self hz _
      · rw [h.tri r c (by omega) hcr hr, h.tri i c (by omega) (by omega) hi, Rat.mul_zero]; grind
    · rw [rowsM_of e]
      by_cases ec : c = i
      · subst ec; exfalso; apply e; exact ⟨hr, by omega, .inr hcr⟩
      · exact h.tri r c (by omega) hcr hr
  · by_cases e2 : r < n ∧ r ≠ i ∧ (inv = true ∨ i < r)
    · rw [rowsM_at e2]
      by_cases ec : c = i
      · subst ec; exact rat_div_self hz _
      · rw [h.dia e r c hr (by omega) hne, h.dia e i c hi (by omega) (by omega), Rat.mul_zero]; grind
    · rw [rowsM_of e2]
      by_cases ec : c = i
      · subst ec; exfalso; apply e2; exact ⟨hr, by omega, .inl e⟩
      · exact h.dia e r c hr (by omega) hne
/-- at the end: the determinant -/
theorem ElSt.done {inv : Bool} {n : Nat} {M m out : Mx} {s d : Rat} (h : ElSt inv n n M m out s d) (h4 : n ≤ 4) : d = detM n M ∧ detM n M ≠ 0 := by
  have h1 := det_tri m h4 h.tri
  have h2 := h.det
  have h3 := h.dd
  have h5 := h.sgn
  have h6 := prodN_ne (f := fun r => m r r) h.piv
  refine ⟨by grind, fun e => h6 ?_⟩
  rw [← h1, h2, e]; grind
/-- no pivot in column i: the determinant is 0 -/
theorem ElSt.none {inv : Bool} {n i : Nat} {M m out : Mx} {s d : Rat} (h : ElSt inv n i M m out s d) (h4 : n ≤ 4) (hi : i < n) (hz : ∀ r, i ≤ r → r < n → m r i = 0) : detM n M = 0 := by
  have h1 := det_none m h4 hi h.tri hz
  have h2 := h.det
  have h5 := h.sgn
  grind
/-- the inverse -/
theorem ElSt.inverse {n : Nat} {M m out : Mx} {s d : Rat} (h : ElSt true n n M m out s d) (h4 : n ≤ 4) :
    (∀ r c, r < n → c < n → mulM n M (fun r c => out r c / m r r) r c = unitM r c) ∧ detM n M * detM n (fun r c => out r c / m r r) = 1 := by
  have hd : Dia n m := fun r c hr hc hne => h.dia rfl r c hr hc hne
  exact ⟨fun r c hr hc => (h.el rfl).inverse hd h.piv r c hr hc, (h.el rfl).det_inv h4 hd h.piv⟩
end Go.Proofs.YtgponoogifeopaaGreatDoor.Num

/- How long the fractions of an elimination are. Plain: no program. -/
namespace Go.Proofs.YtgponoogifeopaaGreatDoor.Num

/-- bounds ahead of column i: m's numbers (a over b), the other matrix's (c over f), the determinant's (x over y) -/
structure Bnd where
  a : Nat
  b : Nat
  c : Nat
  f : Nat
  x : Nat
  y : Nat
def bndN (a0 dm : Nat) : Nat → Bnd
  | 0 => ⟨a0, 1, 1, 1, 1, 1⟩
  | i + 1 =>
    let z := bndN a0 dm i
    ⟨z.a * (z.b * z.a * z.b) + z.a * z.b * z.a * z.b, z.b * (z.b * z.a * z.b), z.c * (z.b * z.a * z.f) + z.a * z.b * z.c * z.f, z.f * (z.b * z.a * z.f), z.x * z.a, z.y * (z.b * dm)⟩
def lim : Nat := 10 ^ 300
theorem Sm.fitsL {q : Rat} {A B : Nat} (h : Sm q A B) (h1 : A < lim) (h2 : B < lim) : Num.fits q = true := by
  unfold lim at h1 h2
  exact h.fits h1 h2
/-- all that is asked of the bounds -/
structure BndOk (inv : Bool) (a0 dm : Nat) : Prop where
  d0 : 1 ≤ dm
  a : ∀ i, i < 4 → 1 ≤ (bndN a0 dm i).a
  m : ∀ i, i < 4 → (bndN a0 dm i).a < lim ∧ (bndN a0 dm i).b * dm < lim ∧ (bndN a0 dm (i + 1)).x < lim ∧ (bndN a0 dm (i + 1)).y < lim
  q : ∀ i, i < 4 → inv = true ∨ i < 3 → (bndN a0 dm i).a * (bndN a0 dm i).b < lim ∧ (bndN a0 dm i).b * (bndN a0 dm i).a < lim ∧ (bndN a0 dm i).a * (bndN a0 dm i).b * (bndN a0 dm i).a < lim ∧ (bndN a0 dm i).b * (bndN a0 dm i).a * (bndN a0 dm i).b * dm < lim ∧ (bndN a0 dm (i + 1)).a < lim ∧ (bndN a0 dm (i + 1)).b * dm < lim
  o : inv = true → ∀ i, i < 4 → (bndN a0 dm i).c < lim ∧ (bndN a0 dm i).f < lim ∧ (bndN a0 dm i).a * (bndN a0 dm i).b * (bndN a0 dm i).c < lim ∧ (bndN a0 dm i).b * (bndN a0 dm i).a * (bndN a0 dm i).f < lim ∧ (bndN a0 dm (i + 1)).c < lim ∧ (bndN a0 dm (i + 1)).f < lim
  e : inv = true → ∀ r, r < 4 → ∀ n, n < 5 → (bndN a0 dm n).c * ((bndN a0 dm r).b * dm) < lim ∧ (bndN a0 dm n).f * (bndN a0 dm r).a < lim
theorem bnd_inv : BndOk true 225 1 := ⟨by decide, by decide +kernel, by decide +kernel, by decide +kernel, by decide +kernel, by decide +kernel⟩
theorem bnd_det : BndOk false 225 1 := ⟨by decide, by decide +kernel, by decide +kernel, by decide +kernel, (fun h => by cases h), (fun h => by cases h)⟩
theorem bnd_back : BndOk false 68343750 61509375000 := ⟨by decide, by decide +kernel, by decide +kernel, by decide +kernel, (fun h => by cases h), (fun h => by cases h)⟩

/-- the bounds hold ahead of column i -/
structure ElBd (inv : Bool) (n i : Nat) (D : Rat) (a0 dm : Nat) (m out : Mx) (d : Rat) : Prop where
  bm : BdM n D (bndN a0 dm i).a (bndN a0 dm i).b m
  bo : inv = true → BdM n 1 (bndN a0 dm i).c (bndN a0 dm i).f out
  bd : Sm d (bndN a0 dm i).x (bndN a0 dm i).y
  bp : ∀ r, r < i → Sm (D * m r r) (bndN a0 dm r).a (bndN a0 dm r).b
/-- a number is D times it, over D -/
theorem sm_over {D q : Rat} {A B dm : Nat} (hD : D ≠ 0) (hdm : Sm D dm 1) (h : Sm (D * q) A B) : Sm q A (B * dm) := by
  have h1 := h.div hdm hD
  have e : D * q / D = q := by
    rw [Rat.div_def]
    have := Rat.mul_inv_cancel D hD
    grind
  rw [e, Nat.mul_one] at h1
  exact h1
theorem sm_unit (r c : Nat) : Sm (1 * unitM r c) 1 1 := by
  rw [Rat.one_mul]
  by_cases e : r = c
  · subst e; rw [unit_same]; exact (Sm.int 1 (by decide))
  · rw [unit_other e]; exact (Sm.int 0 (by decide))
theorem ElBd.start (inv : Bool) {n a0 dm : Nat} {D : Rat} {M : Mx} (h : BdM n D a0 1 M) : ElBd inv n 0 D a0 dm M unitM 1 :=
  ⟨h, fun _ r c _ _ => sm_unit r c, (show Sm 1 1 1 from Sm.int 1 (by decide)), fun r h => absurd h (Nat.not_lt_zero _)⟩
theorem sm_neg {q : Rat} {A B : Nat} (h : Sm q A B) : Sm (-q) A B := h.neg
theorem ElBd.swap {inv : Bool} {n i a0 dm : Nat} {D d : Rat} {m out : Mx} (h : ElBd inv n i D a0 dm m out d) {k : Nat} (hi : i < k) (hk : k < n) : ElBd inv n i D a0 dm (swapM m i k) (swapM out i k) (-d) :=
  ⟨h.bm.swap (by omega) hk, fun e => (h.bo e).swap (by omega) hk, h.bd.neg, fun r hr => by rw [swapM_low hr hi]; exact h.bp r hr⟩
theorem ElBd.next {inv : Bool} {n i a0 dm : Nat} {D d s : Rat} {M m out : Mx} (h : ElBd inv n i D a0 dm m out d) (k : ElSt inv n i M m out s d) (ok : BndOk inv a0 dm) (h4 : n ≤ 4) (hi : i < n) (hz : m i i ≠ 0) (hD : D ≠ 0) (hdm : Sm D dm 1) :
    ElBd inv n (i + 1) D a0 dm (rowsM inv i m m n) (if inv = true then rowsM true i m out n else out) (d * m i i) := by
  have hA := ok.a i (by omega)
  refine ⟨h.bm.rows h.bm hD hi hz hA inv n, fun e => ?_, ?_, fun r hr => ?_⟩
  · subst e
    rw [if_pos rfl]
    exact h.bm.rows (h.bo rfl) hD hi hz hA true n
  · exact h.bd.mul (sm_over hD hdm (h.bm i i hi hi))
  · by_cases e : r = i
    · subst e
      rw [rowsM_of (by omega)]
      exact h.bm r r hi hi
    · have e2 : rowsM inv i m m n r r = m r r := by
        by_cases e : r < n ∧ r ≠ i ∧ (inv = true ∨ i < r)
        · rw [rowsM_at e, k.tri i r (by omega) (by omega) hi, Rat.mul_zero]; grind
        · exact rowsM_of e
      rw [e2]
      exact h.bp r (by omega)
section
variable {inv : Bool} {n i a0 dm : Nat} {D d : Rat} {m out : Mx} (h : ElBd inv n i D a0 dm m out d) (ok : BndOk inv a0 dm) (h4 : n ≤ 4) (hD : D ≠ 0) (hdm : Sm D dm 1)
include h ok h4 hD hdm
theorem ElBd.f_m (hi : i < n) {r c : Nat} (hr : r < n) (hc : c < n) : fits (m r c) = true := by
  have h2 := ok.m i (by omega)
  exact (sm_over hD hdm (h.bm r c hr hc)).fitsL h2.1 h2.2.1
omit hdm in
theorem ElBd.f_q (hi : i < n) (hz : m i i ≠ 0) {r : Nat} (hr : r < n) (hx : inv = true ∨ i < r) : fits (m r i / m i i) = true := by
  have h2 := ok.q i (by omega) (hx.imp id (by omega))
  exact (h.bm.quot hD hi hr hz).fitsL h2.1 h2.2.1
theorem ElBd.f_p (hi : i < n) (hz : m i i ≠ 0) {r c : Nat} (hr : r < n) (hc : c < n) (hx : inv = true ∨ i < r) : fits (m r i / m i i * m i c) = true := by
  have h2 := ok.q i (by omega) (hx.imp id (by omega))
  exact (sm_over hD hdm (h.bm.term h.bm hD hi hr hc hz).1).fitsL h2.2.2.1 h2.2.2.2.1
theorem ElBd.f_s (hi : i < n) (hz : m i i ≠ 0) {r c : Nat} (hr : r < n) (hc : c < n) (hx : inv = true ∨ i < r) : fits (m r c - m r i / m i i * m i c) = true := by
  have h2 := ok.q i (by omega) (hx.imp id (by omega))
  exact (sm_over hD hdm (h.bm.term h.bm hD hi hr hc hz).2).fitsL h2.2.2.2.2.1 h2.2.2.2.2.2
omit hD hdm in
theorem ElBd.f_o (e : inv = true) (hi : i < n) {r c : Nat} (hr : r < n) (hc : c < n) : fits (out r c) = true := by
  have h2 := ok.o e i (by omega)
  have h3 := h.bo e r c hr hc
  rw [Rat.one_mul] at h3
  exact h3.fitsL h2.1 h2.2.1
omit hdm in
theorem ElBd.f_op (e : inv = true) (hi : i < n) (hz : m i i ≠ 0) {r c : Nat} (hr : r < n) (hc : c < n) : fits (m r i / m i i * out i c) = true := by
  have h2 := ok.o e i (by omega)
  have h3 := (h.bm.term (h.bo e) hD hi hr hc hz).1
  rw [Rat.one_mul] at h3
  exact h3.fitsL h2.2.2.1 h2.2.2.2.1
omit hdm in
theorem ElBd.f_os (e : inv = true) (hi : i < n) (hz : m i i ≠ 0) {r c : Nat} (hr : r < n) (hc : c < n) : fits (out r c - m r i / m i i * out i c) = true := by
  have h2 := ok.o e i (by omega)
  have h3 := (h.bm.term (h.bo e) hD hi hr hc hz).2
  rw [Rat.one_mul] at h3
  exact h3.fitsL h2.2.2.2.2.1 h2.2.2.2.2.2
theorem ElBd.f_d (hi : i < n) : fits (d * m i i) = true := by
  have h2 := ok.m i (by omega)
  exact (h.bd.mul (sm_over hD hdm (h.bm i i hi hi))).fitsL h2.2.2.1 h2.2.2.2
end
/-- the last quotients -/
theorem ElBd.f_e {n a0 dm : Nat} {D d : Rat} {m out : Mx} (h : ElBd true n n D a0 dm m out d) (ok : BndOk true a0 dm) (h4 : n ≤ 4) (hD : D ≠ 0) (hdm : Sm D dm 1) (hz : ∀ r, r < n → m r r ≠ 0) {r c : Nat} (hr : r < n) (hc : c < n) : fits (out r c / m r r) = true ∧ fits (m r r) = true := by
  have h2 := ok.e rfl r (by omega) n (by omega)
  have h3 := h.bo rfl r c hr hc
  rw [Rat.one_mul] at h3
  have h5 := ok.m r (by omega)
  have h6 := sm_over hD hdm (h.bp r hr)
  exact ⟨(h3.div h6 (hz r hr)).fitsL h2.1 h2.2, h6.fitsL h5.1 h5.2.1⟩
theorem ElBd.f_eo {n a0 dm : Nat} {D d : Rat} {m out : Mx} (h : ElBd true n n D a0 dm m out d) (ok : BndOk true a0 dm) (h1 : 1 ≤ n) (h4 : n ≤ 4) {r c : Nat} (hr : r < n) (hc : c < n) : fits (out r c) = true := by
  have h2 := ok.o rfl (n - 1) (by omega)
  have h3 := h.bo rfl r c hr hc
  rw [Rat.one_mul] at h3
  have e : n - 1 + 1 = n := by omega
  rw [e] at h2
  exact h3.fitsL h2.2.2.2.2.1 h2.2.2.2.2.2
end Go.Proofs.YtgponoogifeopaaGreatDoor.Num

/- A matrix in memory: a row of rows of fractions. No conditions. -/
namespace Go.Proofs.YtgponoogifeopaaGreatDoor.Num
open Go.RowKit Go.Lib

def setM (m : Mx) (r c : Nat) (q : Rat) : Mx := fun i j => if i = r ∧ j = c then q else m i j
def swapF (g : Nat → Nat) (i k : Nat) : Nat → Nat := fun r => if r = i then g k else if r = k then g i else g r
/-- a row of n fractions in block g -/
def FRow (W : World) (g n : Nat) (f : Nat → Rat) : Prop := ∃ u, W.heap[g]? = some (.cells u 24 (0, 0)) ∧ ∀ c, c < n → u[c * 2]? = some (.string (numS (f c))) ∧ u[c * 2 + 1]? = some (.string (denS (f c)))
/-- the rows' block: k slices of length n -/
def HRow (W : World) (b k n : Nat) (g : Nat → Nat) : Prop := ∃ cur, W.heap[b]? = some (.cells cur 81 (0, 0)) ∧ ∀ r, r < k → ∃ C, cur[r]? = some (.slice (some ⟨g r, 0, none⟩) n C)
theorem FRow.keep {W W' : World} {g n : Nat} {f : Nat → Rat} (h : FRow W g n f) (ho : W'.heap[g]? = W.heap[g]?) : FRow W' g n f := by
  obtain ⟨u, hu, hc⟩ := h
  exact ⟨u, ho.trans hu, hc⟩
theorem FRow.lt {W : World} {g n : Nat} {f : Nat → Rat} (h : FRow W g n f) : g < W.heap.size := by
  obtain ⟨u, hu, _⟩ := h
  exact heap_lt hu
theorem FRow.item {W : World} {g n c : Nat} {f : Nat → Rat} (h : FRow W g n f) (hc : c < n) : W.cell? ⟨g, c * 2, none⟩ = some (.string (numS (f c))) ∧ W.cell? ⟨g, c * 2 + 1, none⟩ = some (.string (denS (f c))) := by
  obtain ⟨u, hu, h⟩ := h
  exact ⟨(Lib.cell_of_heap hu _).trans (h c hc).1, (Lib.cell_of_heap hu _).trans (h c hc).2⟩
theorem FRow.free {W : World} {g n : Nat} {f : Nat → Rat} (h : FRow W g n f) (j : Nat) : W.frozen? ⟨g, j, none⟩ = false := by
  obtain ⟨u, hu, _⟩ := h
  rw [Lib.frozen_of_heap hu j]
theorem FRow.congr {W : World} {g n : Nat} {f f' : Nat → Rat} (h : FRow W g n f) (he : ∀ c, c < n → f' c = f c) : FRow W g n f' := by
  obtain ⟨u, hu, h⟩ := h
  exact ⟨u, hu, fun c hc => by rw [he c hc]; exact h c hc⟩
/-- two stores: a fraction into the row -/
def putF (W : World) (g c : Nat) (q : Rat) : World := (W.setCell ⟨g, c * 2, none⟩ (.string (numS q))).setCell ⟨g, c * 2 + 1, none⟩ (.string (denS q))
theorem putF_other (W : World) (g c : Nat) (q : Rat) {k : Nat} (hk : k ≠ g) : (putF W g c q).heap[k]? = W.heap[k]? :=
  (Below.heap_setCell _ ⟨g, c * 2 + 1, none⟩ _ k hk).trans (Below.heap_setCell W ⟨g, c * 2, none⟩ _ k hk)
theorem putF_size (W : World) (g c : Nat) (q : Rat) : (putF W g c q).heap.size = W.heap.size := by simp [putF, World.setCell]
theorem putF_below {B : Nat} {a W : World} (h : Below B a W) {g : Nat} (hg : B ≤ g) (c : Nat) (q : Rat) : Below B a (putF W g c q) := (h.setCell (p := ⟨g, c * 2, none⟩) hg _).setCell (p := ⟨g, c * 2 + 1, none⟩) hg _
theorem FRow.put {W : World} {g n c : Nat} {f : Nat → Rat} (h : FRow W g n f) (q : Rat) (hc : c < n) : FRow (putF W g c q) g n (fun j => if j = c then q else f j) := by
  obtain ⟨u, hu, h⟩ := h
  have hl : c * 2 + 1 < u.size := (Array.getElem?_eq_some_iff.1 (h c hc).2).1
  refine ⟨_, heap_setCell_at (heap_setCell_at hu (c * 2) (.string (numS q))) (c * 2 + 1) (.string (denS q)), fun j hj => ?_⟩
  obtain ⟨h1, h2⟩ := h j hj
  simp only []
  by_cases e : j = c
  · subst e
    rw [if_pos rfl]
    exact ⟨by rw [Array.getElem?_setIfInBounds_ne (by omega), Array.getElem?_setIfInBounds_self_of_lt (by omega)], by rw [Array.getElem?_setIfInBounds_self_of_lt (by simp; omega)]⟩
  · rw [if_neg e]
    exact ⟨by rw [Array.getElem?_setIfInBounds_ne (by omega), Array.getElem?_setIfInBounds_ne (by omega)]; exact h1, by rw [Array.getElem?_setIfInBounds_ne (by omega), Array.getElem?_setIfInBounds_ne (by omega)]; exact h2⟩
theorem HRow.keep {W W' : World} {b k n : Nat} {g : Nat → Nat} (h : HRow W b k n g) (ho : W'.heap[b]? = W.heap[b]?) : HRow W' b k n g := by
  obtain ⟨u, hu, hc⟩ := h
  exact ⟨u, ho.trans hu, hc⟩
theorem HRow.lt {W : World} {b k n : Nat} {g : Nat → Nat} (h : HRow W b k n g) : b < W.heap.size := by
  obtain ⟨u, hu, _⟩ := h
  exact heap_lt hu
theorem HRow.at {W : World} {b k n r : Nat} {g : Nat → Nat} (h : HRow W b k n g) (hr : r < k) : ∃ C, W.cell? ⟨b, r, none⟩ = some (.slice (some ⟨g r, 0, none⟩) n C) := by
  obtain ⟨u, hu, h⟩ := h
  obtain ⟨C, hC⟩ := h r hr
  exact ⟨C, (Lib.cell_of_heap hu _).trans hC⟩
theorem HRow.free {W : World} {b k n : Nat} {g : Nat → Nat} (h : HRow W b k n g) (j : Nat) : W.frozen? ⟨b, j, none⟩ = false := by
  obtain ⟨u, hu, _⟩ := h
  rw [Lib.frozen_of_heap hu j]
theorem row_apart {W : World} {b g k n n' : Nat} {gg : Nat → Nat} {f : Nat → Rat} (h : HRow W b k n gg) (h' : FRow W g n' f) : b ≠ g := by
  rintro rfl
  obtain ⟨u, hu, _⟩ := h
  obtain ⟨v, hv, _⟩ := h'
  rw [hu] at hv
  injection hv with hv
  injection hv with _ hv
  cases hv
/-- two stores into the rows' block: two rows change places -/
def swapW (W : World) (b i k : Nat) (x y : Value) : World := (W.setCell ⟨b, i, none⟩ x).setCell ⟨b, k, none⟩ y
theorem swapW_other (W : World) (b i k : Nat) (x y : Value) {j : Nat} (hj : j ≠ b) : (swapW W b i k x y).heap[j]? = W.heap[j]? :=
  (Below.heap_setCell _ ⟨b, k, none⟩ _ j hj).trans (Below.heap_setCell W ⟨b, i, none⟩ _ j hj)
theorem HRow.swap {W : World} {b k n i l : Nat} {g : Nat → Nat} (h : HRow W b k n g) (hi : i < k) (hl : l < k) {C D : Nat} : HRow (swapW W b i l (.slice (some ⟨g l, 0, none⟩) n C) (.slice (some ⟨g i, 0, none⟩) n D)) b k n (swapF g i l) := by
  obtain ⟨u, hu, h⟩ := h
  refine ⟨_, heap_setCell_at (heap_setCell_at hu i _) l _, fun r hr => ?_⟩
  have si : i < u.size := by obtain ⟨_, h⟩ := h i hi; exact (Array.getElem?_eq_some_iff.1 h).1
  have sl : l < u.size := by obtain ⟨_, h⟩ := h l hl; exact (Array.getElem?_eq_some_iff.1 h).1
  unfold swapF
  by_cases e : r = l
  · subst e
    refine ⟨D, ?_⟩
    rw [Array.getElem?_setIfInBounds_self_of_lt (by simp; omega)]
    by_cases e2 : r = i
    · subst e2; rw [if_pos rfl]
    · rw [if_neg e2, if_pos rfl]
  · by_cases e2 : r = i
    · subst e2
      refine ⟨C, ?_⟩
      rw [Array.getElem?_setIfInBounds_ne (by omega), Array.getElem?_setIfInBounds_self_of_lt (by omega), if_pos rfl]
    · obtain ⟨E, hE⟩ := h r hr
      refine ⟨E, ?_⟩
      rw [Array.getElem?_setIfInBounds_ne (by omega), Array.getElem?_setIfInBounds_ne (by omega), if_neg e2, if_neg e]
      exact hE
/-- one store into the rows' block: a row's slice anew -/
theorem HRow.set {W : World} {b k n r C : Nat} {g : Nat → Nat} {x : Nat} (h : ∃ cur, W.heap[b]? = some (.cells cur 81 (0, 0)) ∧ r < cur.size ∧ ∀ s, s < k → s ≠ r → ∃ C, cur[s]? = some (.slice (some ⟨g s, 0, none⟩) n C)) (hx : g r = x) :
    HRow (W.setCell ⟨b, r, none⟩ (.slice (some ⟨x, 0, none⟩) n C)) b k n g := by
  obtain ⟨u, hu, hs, h⟩ := h
  refine ⟨_, heap_setCell_at hu r _, fun s hk => ?_⟩
  by_cases e : s = r
  · subst e
    exact ⟨C, by rw [Array.getElem?_setIfInBounds_self_of_lt hs, hx]⟩
  · obtain ⟨D, hD⟩ := h s hk e
    exact ⟨D, by rw [Array.getElem?_setIfInBounds_ne (by omega)]; exact hD⟩

/-- matrix m, k rows of n: block b holds the rows' slices, row r lies in block g r -/
structure MxAt (W : World) (b k n : Nat) (g : Nat → Nat) (m : Mx) : Prop where
  hd : HRow W b k n g
  rows : ∀ r, r < k → FRow W (g r) n (m r)
  inj : ∀ r s, r < k → s < k → g r = g s → r = s
section
variable {W : World} {b k n : Nat} {g : Nat → Nat} {m : Mx}
theorem MxAt.keep (h : MxAt W b k n g m) {W' : World} (ho : W'.heap[b]? = W.heap[b]?) (hr : ∀ r, r < k → W'.heap[g r]? = W.heap[g r]?) : MxAt W' b k n g m :=
  ⟨h.hd.keep ho, fun r hk => (h.rows r hk).keep (hr r hk), h.inj⟩
theorem MxAt.below (h : MxAt W b k n g m) {W' : World} (hb : Below W.heap.size W W') : MxAt W' b k n g m := h.keep (hb.block _ h.hd.lt) fun r hr => hb.block _ (h.rows r hr).lt
theorem MxAt.congr (h : MxAt W b k n g m) {m' : Mx} (he : ∀ r c, r < k → c < n → m' r c = m r c) : MxAt W b k n g m' := ⟨h.hd, fun r hr => (h.rows r hr).congr (fun c hc => he r c hr hc), h.inj⟩
theorem MxAt.other (h : MxAt W b k n g m) {x : Nat} (hb : x ≠ b) (hr : ∀ r, r < k → x ≠ g r) (c : Nat) (q : Rat) : MxAt (putF W x c q) b k n g m :=
  h.keep (putF_other W x c q (fun e => hb e.symm)) fun r hk => putF_other W x c q (fun e => hr r hk e.symm)
theorem MxAt.put (h : MxAt W b k n g m) {r c : Nat} (hr : r < k) (hc : c < n) (q : Rat) : MxAt (putF W (g r) c q) b k n g (setM m r c q) := by
  refine ⟨h.hd.keep (putF_other W _ c q (row_apart h.hd (h.rows r hr))), fun s hs => ?_, h.inj⟩
  by_cases e : s = r
  · subst e
    refine ((h.rows s hs).put q hc).congr fun j _ => ?_
    unfold setM
    by_cases e : j = c
    · subst e; rw [if_pos ⟨rfl, rfl⟩, if_pos rfl]
    · rw [if_neg (fun h => e h.2), if_neg e]
  · refine ((h.rows s hs).keep (putF_other W _ c q (fun e2 => e (h.inj s r hs hr e2)))).congr fun j _ => ?_
    unfold setM
    rw [if_neg (fun h => e h.1)]
theorem MxAt.swap (h : MxAt W b k n g m) {i l : Nat} (hi : i < k) (hl : l < k) (C D : Nat) : MxAt (swapW W b i l (.slice (some ⟨g l, 0, none⟩) n C) (.slice (some ⟨g i, 0, none⟩) n D)) b k n (swapF g i l) (swapM m i l) := by
  refine ⟨h.hd.swap hi hl, fun r hr => ?_, fun r s hr hs he => ?_⟩
  · have hne : swapF g i l r ≠ b := by
      unfold swapF
      by_cases e : r = i
      · rw [if_pos e]; exact fun e => row_apart h.hd (h.rows l hl) e.symm
      · rw [if_neg e]
        by_cases e : r = l
        · rw [if_pos e]; exact fun e => row_apart h.hd (h.rows i hi) e.symm
        · rw [if_neg e]; exact fun e => row_apart h.hd (h.rows r hr) e.symm
    refine FRow.keep ?_ (swapW_other W b i l _ _ hne)
    unfold swapF swapM
    by_cases e : r = i
    · rw [if_pos e, if_pos e]; exact h.rows l hl
    · rw [if_neg e, if_neg e]
      by_cases e : r = l
      · rw [if_pos e, if_pos e]; exact h.rows i hi
      · rw [if_neg e, if_neg e]; exact h.rows r hr
  · have H : ∀ r, swapF g i l r = g (if r = i then l else if r = l then i else r) := by
      intro r
      unfold swapF
      by_cases e : r = i
      · rw [if_pos e, if_pos e]
      · rw [if_neg e, if_neg e]
        by_cases e : r = l
        · rw [if_pos e, if_pos e]
        · rw [if_neg e, if_neg e]
    rw [H, H] at he
    have := h.inj _ _ (by split; exact hl; split; exact hi; exact hr) (by split; exact hl; split; exact hi; exact hs) he
    revert this
    split <;> split <;> (try split) <;> (try split) <;> omega
theorem MxAt.swap_other (h : MxAt W b k n g m) {x : Nat} (hx : x ≠ b) (hr : ∀ r, r < k → x ≠ g r) (i l : Nat) (u v : Value) : MxAt (swapW W x i l u v) b k n g m :=
  h.keep (swapW_other W x i l u v (fun e => hx e.symm)) fun r hk => swapW_other W x i l u v (fun e => hr r hk e.symm)
end
end Go.Proofs.YtgponoogifeopaaGreatDoor.Num

/- A matrix that is being made, row by row. No conditions. -/
namespace Go.Proofs.YtgponoogifeopaaGreatDoor.Num
open Go.RowKit Go.Lib

/-- i of N rows are done (below block B); the header's cell i holds v, those behind it nothing -/
structure Rows (W : World) (b N n i B : Nat) (g : Nat → Nat) (m : Mx) (v : Value) (wx : World) : Prop where
  hd : ∃ u, wx.heap[b]? = some (.cells u 81 (0, 0)) ∧ u.size = N ∧ (∀ r, r < i → ∃ C, u[r]? = some (.slice (some ⟨g r, 0, none⟩) n C)) ∧ (i < N → u[i]? = some v) ∧ ∀ r, i < r → r < N → u[r]? = some (.slice none 0 0)
  rows : ∀ r, r < i → FRow wx (g r) n (m r)
  inj : ∀ r s, r < i → s < i → g r = g s → r = s
  bl : b < B
  gl : ∀ r, r < i → b < g r ∧ g r < B
  bs : B ≤ wx.heap.size
  low : Below W.heap.size W wx
  ge : W.heap.size ≤ b
section
variable {W wx : World} {b N n i B : Nat} {g : Nat → Nat} {m : Mx} {v : Value}
theorem Rows.kept (h : Rows W b N n i B g m v wx) {w' : World} (ho : ∀ k, k < B → w'.heap[k]? = wx.heap[k]?) (hs : wx.heap.size ≤ w'.heap.size) (hl : Below W.heap.size W w') : Rows W b N n i B g m v w' := by
  obtain ⟨⟨u, hu, h1⟩, h2, h3, h4, h5, h6, h7, h8⟩ := h
  exact ⟨⟨u, (ho b h4).trans hu, h1⟩, fun r hr => (h2 r hr).keep (ho _ (h5 r hr).2), h3, h4, h5, Nat.le_trans h6 hs, hl, h8⟩
theorem Rows.step (h : Rows W b N n i B g m v wx) {w' : World} (hb : Below wx.heap.size wx w') : Rows W b N n i B g m v w' :=
  h.kept (fun k hk => hb.block k (Nat.lt_of_lt_of_le hk h.bs)) hb.size (h.low.trans (hb.mono h.low.size))
theorem Rows.grown (h : Rows W b N n i B g m v wx) {w' : World} {row : Option Nat} (hg : wx.grownBy w' row) (hr : ∀ k, row = some k → B ≤ k) : Rows W b N n i B g m v w' :=
  h.kept (fun k hk => hg.block k (Nat.lt_of_lt_of_le hk h.bs) (fun e => by have := hr k e.symm; omega)) hg.size (h.low.grown hg h.low.size (fun k e => by have := hr k e; have := h.bl; have := h.ge; omega))
theorem Rows.setF (h : Rows W b N n i B g m v wx) {G : Nat} (hG : B ≤ G) (c : Nat) (q : Rat) : Rows W b N n i B g m v (putF wx G c q) :=
  h.kept (fun k hk => putF_other wx G c q (by omega)) (by rw [putF_size]; exact Nat.le_refl _) (putF_below h.low (by have := h.bl; have := h.ge; omega) c q)
theorem Rows.store (h : Rows W b N n i B g m v wx) (hi : i < N) (v' : Value) : Rows W b N n i B g m v' (wx.setCell ⟨b, i, none⟩ v') := by
  obtain ⟨⟨u, hu, h0, h1, h1', h1''⟩, h2, h3, h4, h5, h6, h7, h8⟩ := h
  have ho : ∀ k, k ≠ b → (wx.setCell ⟨b, i, none⟩ v').heap[k]? = wx.heap[k]? := fun k hk => Below.heap_setCell wx ⟨b, i, none⟩ v' k hk
  refine ⟨⟨_, heap_setCell_at hu i v', by simpa using h0, fun r hr => ?_, fun _ => ?_, fun r hr hN => ?_⟩, fun r hr => (h2 r hr).keep (ho _ (by have := h5 r hr; omega)), h3, h4, h5, by simpa [World.setCell] using h6, h7.setCell (p := ⟨b, i, none⟩) h8 v', h8⟩
  · obtain ⟨C, hC⟩ := h1 r hr
    exact ⟨C, by rw [Array.getElem?_setIfInBounds_ne (by omega)]; exact hC⟩
  · rw [Array.getElem?_setIfInBounds_self_of_lt (by omega)]
  · rw [Array.getElem?_setIfInBounds_ne (by omega)]; exact h1'' r hr hN
theorem Rows.cell (h : Rows W b N n i B g m v wx) (hi : i < N) : wx.cell? ⟨b, i, none⟩ = some v := by
  obtain ⟨⟨u, hu, _, _, h1, _⟩, _⟩ := h
  exact (Lib.cell_of_heap hu _).trans (h1 hi)
theorem Rows.free (h : Rows W b N n i B g m v wx) (j : Nat) : wx.frozen? ⟨b, j, none⟩ = false := by
  obtain ⟨⟨u, hu, _⟩, _⟩ := h
  rw [Lib.frozen_of_heap hu j]
theorem Rows.next {G C : Nat} (h : Rows W b N n i B g m (.slice (some ⟨G, 0, none⟩) n C) wx) (hi : i < N) (hG : B ≤ G) (hr : FRow wx G n (m i)) : Rows W b N n (i + 1) wx.heap.size (fun r => if r = i then G else g r) m (.slice none 0 0) wx := by
  obtain ⟨⟨u, hu, h0, h1, h1', h1''⟩, h2, h3, h4, h5, h6, h7, h8⟩ := h
  have hGs := hr.lt
  refine ⟨⟨u, hu, h0, fun r hr => ?_, fun hi' => h1'' (i + 1) (by omega) hi', fun r hr hN => h1'' r (by omega) hN⟩, fun r hr' => ?_, fun r s hr hs => ?_, by omega, fun r hr => ?_, Nat.le_refl _, h7, h8⟩
  · by_cases e : r = i
    · subst e; exact ⟨C, by rw [if_pos rfl]; exact h1' hi⟩
    · rw [if_neg e]; exact h1 r (by omega)
  · by_cases e : r = i
    · subst e; rw [if_pos rfl]; exact hr
    · rw [if_neg e]; exact h2 r (by omega)
  · by_cases e : r = i
    · by_cases e2 : s = i
      · omega
      · rw [if_pos e, if_neg e2]
        have := h5 s (by omega)
        omega
    · by_cases e2 : s = i
      · rw [if_neg e, if_pos e2]
        have := h5 r (by omega)
        omega
      · rw [if_neg e, if_neg e2]
        exact h3 r s (by omega) (by omega)
  · by_cases e : r = i
    · rw [if_pos e]; omega
    · rw [if_neg e]
      have := h5 r (by omega)
      omega
theorem Rows.done (h : Rows W b N n N B g m v wx) : MxAt wx b N n g m := by
  obtain ⟨⟨u, hu, h0, h1, _⟩, h2, h3, _⟩ := h
  exact ⟨⟨u, hu, h1⟩, h2, h3⟩
theorem Rows.start {W w' : World} (b N n : Nat) (g : Nat → Nat) (m : Mx) {u : Array Value} (hu : w'.heap[b]? = some (.cells u 81 (0, 0))) (hN : u.size = N) (hz : ∀ r, r < N → u[r]? = some (.slice none 0 0)) (hl : Below W.heap.size W w') (hb : W.heap.size ≤ b) : Rows W b N n 0 w'.heap.size g m (.slice none 0 0) w' :=
  ⟨⟨u, hu, hN, fun _ hr => absurd hr (Nat.not_lt_zero _), fun h => hz 0 h, fun _ _ h => hz _ h⟩, fun _ hr => absurd hr (Nat.not_lt_zero _), fun _ _ hr => absurd hr (Nat.not_lt_zero _), heap_lt hu, fun _ hr => absurd hr (Nat.not_lt_zero _), Nat.le_refl _, hl, hb⟩
end
/-- a row of N fractions of which the first c are done -/
def PRow (W : World) (g N c : Nat) (f : Nat → Rat) : Prop := ∃ u, W.heap[g]? = some (.cells u 24 (0, 0)) ∧ u.size = N * 2 ∧ ∀ j, j < c → u[j * 2]? = some (.string (numS (f j))) ∧ u[j * 2 + 1]? = some (.string (denS (f j)))
section
variable {W : World} {g N c : Nat} {f : Nat → Rat}
theorem PRow.keep (h : PRow W g N c f) {W' : World} (ho : W'.heap[g]? = W.heap[g]?) : PRow W' g N c f := by
  obtain ⟨u, hu, h⟩ := h
  exact ⟨u, ho.trans hu, h⟩
theorem PRow.lt (h : PRow W g N c f) : g < W.heap.size := by
  obtain ⟨u, hu, _⟩ := h
  exact heap_lt hu
theorem PRow.below (h : PRow W g N c f) {W' : World} (hb : Below W.heap.size W W') : PRow W' g N c f := h.keep (hb.block _ h.lt)
theorem PRow.any (h : PRow W g N c f) {j : Nat} (hj : j < N * 2) : (∃ x, W.cell? ⟨g, j, none⟩ = some x) ∧ W.frozen? ⟨g, j, none⟩ = false := by
  obtain ⟨u, hu, hs, _⟩ := h
  exact ⟨⟨u[j]'(by omega), (Lib.cell_of_heap hu _).trans (Array.getElem?_eq_getElem (by omega))⟩, by rw [Lib.frozen_of_heap hu j]⟩
theorem PRow.put (h : PRow W g N c f) {j : Nat} (hj : j < N) (hc : j ≤ c) (q : Rat) : PRow (putF W g j q) g N (max c (j + 1)) (fun k => if k = j then q else f k) := by
  obtain ⟨u, hu, hs, h⟩ := h
  refine ⟨_, heap_setCell_at (heap_setCell_at hu (j * 2) (.string (numS q))) (j * 2 + 1) (.string (denS q)), by simpa using hs, fun k hk => ?_⟩
  simp only []
  by_cases e : k = j
  · subst e
    rw [if_pos rfl]
    exact ⟨by rw [Array.getElem?_setIfInBounds_ne (by omega), Array.getElem?_setIfInBounds_self_of_lt (by omega)], by rw [Array.getElem?_setIfInBounds_self_of_lt (by simp; omega)]⟩
  · rw [if_neg e]
    obtain ⟨h1, h2⟩ := h k (by omega)
    exact ⟨by rw [Array.getElem?_setIfInBounds_ne (by omega), Array.getElem?_setIfInBounds_ne (by omega)]; exact h1, by rw [Array.getElem?_setIfInBounds_ne (by omega), Array.getElem?_setIfInBounds_ne (by omega)]; exact h2⟩
theorem PRow.full (h : PRow W g N N f) {f' : Nat → Rat} (he : ∀ c, c < N → f' c = f c) : FRow W g N f' := by
  obtain ⟨u, hu, _, h⟩ := h
  exact ⟨u, hu, fun c hc => by rw [he c hc]; exact h c hc⟩
theorem PRow.congr (h : PRow W g N c f) {f' : Nat → Rat} {c' : Nat} (hc : c' = c) (he : ∀ j, j < c → f' j = f j) : PRow W g N c' f' := by
  subst hc
  obtain ⟨u, hu, hs, h⟩ := h
  exact ⟨u, hu, hs, fun j hj => by rw [he j hj]; exact h j hj⟩
end
/-- make([]api.Frac, n), make(matrix, n) -/
theorem make_fracs (n : Nat) (h : n ≤ 1000) (w : World) : (Instr.makeSlice 81 (.int .i64 (n : Int)) (.int .i64 (n : Int))).run Tryz.prog w = .ok (.slice (some ⟨w.heap.size, 0, none⟩) n n) (w.alloc (.cells (madeCells #[.string { data := #[] }, .string { data := #[] }] (n * 2)) 24)) := by
  obtain ⟨i, hi, hz, hs, hb⟩ := info_frac
  have := run_make (P := Tryz.prog) w 81 24 i _ Tryz.underlying81 hi hz .i64 .i64 (n : Int) (n : Int) (by omega) (Int.le_refl _) (by rw [hb]; omega) (by omega)
  rw [hs, show (Value.agg #[.string { data := #[] }, .string { data := #[] }]).cells = #[.string { data := #[] }, .string { data := #[] }] by simp [Value.cells]] at this
  simpa only [Int.toNat_natCast] using this
theorem make_rows (n : Nat) (h : n ≤ 1000) (w : World) : (Instr.makeSlice 128 (.int .i64 (n : Int)) (.int .i64 (n : Int))).run Tryz.prog w = .ok (.slice (some ⟨w.heap.size, 0, none⟩) n n) (w.alloc (.cells (madeCells #[.slice none 0 0] n) 81)) :=
  run_make_row' (P := Tryz.prog) 128 81 (.slice none 0 0) 24 Tryz.underlying128 (by kernel_rfl) rfl .i64 .i64 n (by omega) (by omega) w
theorem made_at (x : Value) (n r : Nat) (h : r < n) : (madeCells #[x] n)[r]? = some x := by
  unfold madeCells
  rw [Array.getElem?_map, Array.getElem?_range, if_pos h]
  simp [Nat.mod_one]
end Go.Proofs.YtgponoogifeopaaGreatDoor.Num

/- A region that draws its order, by one condition on what has come up, the frame and the world: each operation is walked once. Plain: of no program. -/
namespace Go.Proofs.YtgponoogifeopaaGreatDoor.Num

section
variable {P : Program} {ops : Array Oper} {Q : Exit → Act → World → Prop} {md : Region.Mode}

def unl (ops : Array Oper) (listed : Array Bool) : List Nat := (List.range ops.size).filter fun j => !(listed.getD j true)
theorem unl_set {listed : Array Bool} {i : Nat} (hi : i < ops.size) (hun : listed.getD i true = false) : (unl ops (listed.setIfInBounds i true)).length < (unl ops listed).length := by
  have hsz : i < listed.size := by
    rcases Nat.lt_or_ge i listed.size with h | h
    · exact h
    · simp [Array.getElem?_eq_none h] at hun
  have e : unl ops (listed.setIfInBounds i true) = (unl ops listed).filter fun j => !(j == i) := by
    unfold unl
    rw [List.filter_filter]
    apply List.filter_congr
    intro j hj
    by_cases hji : i = j
    · subst hji; simp [hsz]
    · have : (j == i) = false := by simp; omega
      rw [getD_set_ne true hji, this]; simp
  rw [e, List.length_filter_lt_length_iff_exists]
  refine ⟨i, ?_, by simp⟩
  unfold unl
  rw [List.mem_filter, List.mem_range]
  exact ⟨hi, by rw [hun]; rfl⟩
theorem unl_ready {listed : Array Bool} {i : Nat} (h : i ∈ Region.ready md ops listed) : 0 < (unl ops listed).length := by
  obtain ⟨h0, o, ho, _⟩ := mem_ready.1 h
  have hi : i < ops.size := (Array.getElem?_eq_some_iff.1 ho).1
  refine List.length_pos_of_mem (a := i) ?_
  unfold unl
  rw [List.mem_filter, List.mem_range]
  exact ⟨hi, by rw [h0]; rfl⟩

theorem wpAny_inv (I : Array Bool → Act → World → Prop)
    (hstep : ∀ listed a w, I listed a w → ∀ i o, ops[i]? = some o → listed.getD i true = false → (∀ e ∈ o.after, Region.binds md e = true → listed.getD e.on false = true) → wpOp P ops Q i (fun a' w' => I (listed.setIfInBounds i true) a' w') a w)
    (hdone : ∀ listed a w, I listed a w → Region.ready md ops listed = [] → Q .normal a w) :
    ∀ fuel listed a w, (unl ops listed).length ≤ fuel → I listed a w → wpAny P md ops Q fuel listed a w := by
  intro fuel
  induction fuel with
  | zero =>
    intro listed a w hu hI
    have hr : Region.ready md ops listed = [] := by
      cases hr : Region.ready md ops listed with
      | nil => rfl
      | cons i r => have := unl_ready (md := md) (ops := ops) (listed := listed) (i := i) (by rw [hr]; simp); omega
    exact ⟨hr, hdone listed a w hI hr⟩
  | succ n ih =>
    intro listed a w hu hI
    refine ⟨fun hr => hdone listed a w hI hr, fun i hi => ?_⟩
    obtain ⟨h0, o, ho, hall⟩ := mem_ready.1 hi
    refine wpOp_mono (fun a' w' h => ih _ a' w' ?_ h) (hstep listed a w hI i o ho h0 hall)
    have := unl_set (ops := ops) (Array.getElem?_eq_some_iff.1 ho).1 h0
    omega

theorem wp_region_inv {id : Nat} {a : Act} {w : World} (hm : P.follows .mixedOrders = true) (I : Array Bool → Act → World → Prop)
    (h0 : I (Array.replicate ops.size false) a w.drew)
    (hstep : ∀ listed a w, I listed a w → ∀ i o, ops[i]? = some o → listed.getD i true = false → (∀ e ∈ o.after, Region.binds .any e = true → listed.getD e.on false = true) → wpOp P ops Q i (fun a' w' => I (listed.setIfInBounds i true) a' w') a w)
    (hdone : ∀ listed a w, I listed a w → Region.ready .any ops listed = [] → Q .normal a w) : (Code.region id ops true).wp P Q a w :=
  wp_region_any hm (wpAny_inv I hstep hdone _ _ _ _ (by
    unfold unl
    refine Nat.le_trans (List.length_filter_le _ _) ?_
    rw [List.length_range]; exact Nat.le_refl _) h0)

/-- the operations that number i waits for -/
def needs (md : Region.Mode) (ops : Array Oper) (i : Nat) : List Nat :=
  match ops[i]? with
  | some o => (o.after.toList.filter fun e => Region.binds md e).map (·.on)
  | none => []
/-- every edge leads back -/
def backB (ops : Array Oper) : Bool := (List.range ops.size).all fun i => match ops[i]? with
  | some o => o.after.toList.all fun e => !Region.binds .any e || decide (e.on < i)
  | none => true
theorem all_listed {listed : Array Bool} (hsz : listed.size = ops.size) (hb : backB ops = true) (hr : Region.ready .any ops listed = []) : ∀ j, j < ops.size → listed.getD j false = true := by
  intro j
  induction j using Nat.strongRecOn with
  | ind j ih =>
    intro hj
    cases hl : listed.getD j false with
    | true => rfl
    | false =>
      have hun : listed.getD j true = false := by
        have hj' : j < listed.size := by omega
        simp [hj'] at hl ⊢
        exact hl
      have ho : ops[j]? = some ops[j] := Array.getElem?_eq_getElem hj
      have hbj := List.all_eq_true.1 hb j (List.mem_range.2 hj)
      rw [ho] at hbj
      have : j ∈ Region.ready .any ops listed := mem_ready.2 ⟨hun, ops[j], ho, fun e he hbd => by
        have h1 := List.all_eq_true.1 hbj e (Array.mem_toList_iff.2 he)
        rw [hbd] at h1
        have := of_decide_eq_true h1
        exact ih e.on this (by omega)⟩
      rw [hr] at this
      cases this

/-- the frame with some slots laid anew -/
def putAll (a : Act) (slots : List Nat) (vs : List Value) : Act := { a with tmps := (slots.zip vs).foldl (fun t x => t.setIfInBounds x.1 x.2) a.tmps }
theorem wp_region_by {id : Nat} {a0 : Act} {w : World} (slots : List Nat) (J : Array Bool → List Value → World → Prop) (hm : P.follows .mixedOrders = true) (hb : backB ops = true)
    (vs0 : List Value) (h00 : putAll a0 slots vs0 = a0) (h0 : J (Array.replicate ops.size false) vs0 w.drew)
    (hstep : ∀ listed vs w, J listed vs w → ∀ i, i < ops.size → listed.getD i true = false → (∀ j, (needs .any ops i).contains j = true → listed.getD j false = true) → wpOp P ops Q i (fun a' w' => ∃ vs', J (listed.setIfInBounds i true) vs' w' ∧ a' = putAll a0 slots vs') (putAll a0 slots vs) w)
    (hdone : ∀ listed vs w, J listed vs w → (∀ j, j < ops.size → listed.getD j false = true) → Q .normal (putAll a0 slots vs) w) : (Code.region id ops true).wp P Q a0 w := by
  refine wp_region_inv hm (fun listed a w => listed.size = ops.size ∧ ∃ vs, J listed vs w ∧ a = putAll a0 slots vs) ⟨by simp, vs0, h0, h00.symm⟩ ?_ ?_
  · rintro listed a w ⟨hsz, vs, hJ, rfl⟩ i o ho hun hpre
    refine wpOp_mono (fun a' w' h => ⟨by simpa using hsz, h⟩) (hstep listed vs w hJ i (Array.getElem?_eq_some_iff.1 ho).1 hun ?_)
    intro j hj
    unfold needs at hj
    rw [ho] at hj
    simp only [List.contains_iff_mem, List.mem_map, List.mem_filter, Array.mem_toList_iff] at hj
    obtain ⟨e, ⟨he, hbd⟩, rfl⟩ := hj
    exact hpre e he hbd
  · rintro listed a w ⟨hsz, vs, hJ, rfl⟩ hr
    exact hdone listed vs w hJ (all_listed hsz hb hr)
theorem step_of {i : Nat} {K : Act → World → Prop} {a : Act} {w : World} (o : Oper) (ho : ops[i]? = some o)
    (h : ∀ K' : Act → World → Prop, Shut (∀ a w, K a w → K' a w) → if Region.wanted o (yielded ops a.tmps) = true then Oper.wp P o a w K' Q else K' (a.put o.dst undef) w) : wpOp P ops Q i K a w :=
  wpOp_step ho (fun K' hK => h K' hK)

theorem bit_mono {listed : Array Bool} {i j : Nat} (h : listed.getD j false = true) : (listed.setIfInBounds i true).getD j false = true := by
  by_cases e : i = j
  · subst e
    have hsz : i < listed.size := by
      rcases Nat.lt_or_ge i listed.size with h' | h'
      · exact h'
      · simp [Array.getElem?_eq_none h'] at h
    simp [hsz]
  · rwa [getD_set_ne false e]
theorem bit_off {listed : Array Bool} {i : Nat} (h : listed.getD i true = false) : ¬ listed.getD i false = true := by
  have hsz : i < listed.size := by
    rcases Nat.lt_or_ge i listed.size with h' | h'
    · exact h'
    · simp [Array.getElem?_eq_none h'] at h
  simp [hsz] at h ⊢
  exact h
theorem bit_none {n i : Nat} : ¬ (Array.replicate n false).getD i false = true := by
  simp [Array.getElem?_replicate]
  split <;> simp
theorem bit_if {listed : Array Bool} {i j : Nat} {α : Type} {x y : α} (h : i ≠ j) : (if (listed.setIfInBounds i true).getD j false then x else y) = if listed.getD j false then x else y := by
  rw [getD_set_ne false h]
theorem bit_set {listed : Array Bool} {i j : Nat} (h : (listed.setIfInBounds i true).getD j false = true) : j = i ∨ listed.getD j false = true := by
  by_cases e : i = j
  · exact .inl e.symm
  · exact .inr (by rwa [getD_set_ne false e] at h)
theorem bit_self {listed : Array Bool} {i : Nat} (h : listed.getD i true = false) : (listed.setIfInBounds i true).getD i false = true := by
  have hsz : i < listed.size := by
    rcases Nat.lt_or_ge i listed.size with h' | h'
    · exact h'
    · simp [Array.getElem?_eq_none h'] at h
  simp [hsz]
end
end Go.Proofs.YtgponoogifeopaaGreatDoor.Num
