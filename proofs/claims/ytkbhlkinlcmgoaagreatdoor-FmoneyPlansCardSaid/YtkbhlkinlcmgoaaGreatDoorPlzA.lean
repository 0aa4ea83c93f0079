/- Numbers as texts of digits, fractions, values and the functions of fmath: contracts of the program's functions, joined from smaller texts. Conditions stand at each theorem. -/
import Derived.Test.YtkbhlkinlcmgoaaGreatDoorPlqB
import Derived.Test.YtkbhlkinlcmgoaaGreatDoorPlyA

/- package fmoney: the sums of interests and principals, CUMPRINC over its arguments. Conditions: what the small functions give. -/
namespace Go.Proofs.YtkbhlkinlcmgoaaGreatDoor.Num.Fy
open Go.RowKit Go.Lib Num

/-- what stays while the payments are added up -/
structure SumI (W : World) (b B4 B6 B10 B11 : Nat) (r v x y : Rat) (wx : World) : Prop where
  h2 : wx.heap[W.heap.size]? = some (.cells #[.string { data := #[] }, .string { data := #[] }] 24 (0, 0))
  h3 : wx.heap[W.heap.size + 1]? = some (.cells #[.string { data := #[] }, .string { data := #[] }] 24 (0, 0))
  h4 : wx.heap[B4]? = some (.cells #[.string (numS r), .string (denS r)] 24 (0, 0))
  h6 : wx.heap[B6]? = some (.cells #[.string (numS v), .string (denS v)] 24 (0, 0))
  h10 : wx.heap[B10]? = some (.cells #[.string (numS x), .string (denS x)] 24 (0, 0))
  h11 : wx.heap[B11]? = some (.cells #[.string (numS y), .string (denS y)] 24 (0, 0))
  g : W.grownBy wx (some b)
attribute [local irreducible] wpOp
end Go.Proofs.YtkbhlkinlcmgoaaGreatDoor.Num.Fy

/- package fmoney at loans of at most 24 periods: loan, future, payment, part. Conditions: rates of -9 to 30 hundredths; the tables lie as they are laid. -/
namespace Go.Proofs.YtkbhlkinlcmgoaaGreatDoor.Num.Fy
open Go.RowKit Go.Lib Num

/-- the variable one, as it is read -/
def oneV : Value := .agg #[.string { data := #[49] }, .string { data := #[49] }]
/-- the terms of a loan as a value -/
def termsV (r g s : Rat) : Value := .agg #[.string (numS r), .string (denS r), .string (numS g), .string (denS g), .string (numS s), .string (denS s)]
theorem f1 : fits (1 : Rat) = true := fits_int 1 (by decide)
theorem f0 : fits (0 : Rat) = true := fits_int 0 (by decide)
theorem c_add {p q r : Rat} (hp : fits p = true) (hq : fits q = true) (hr : fits r = true) (e : p + q = r) : Fun2 79 (fracV p) (fracV q) (fracV r) := fun W g => by
  subst e; exact y_add p q W hp hq hr g.e
theorem c_sub {p q r : Rat} (hp : fits p = true) (hq : fits q = true) (hr : fits r = true) (e : p - q = r) : Fun2 94 (fracV p) (fracV q) (fracV r) := fun W g => by
  subst e; exact y_sub p q W hp hq hr g.e
theorem c_mul {p q r : Rat} (hp : fits p = true) (hq : fits q = true) (hr : fits r = true) (e : p * q = r) : Fun2 80 (fracV p) (fracV q) (fracV r) := fun W g => by
  subst e; exact y_mul p q W hp hq hr g.e
theorem c_div {p q r : Rat} (hp : fits p = true) (hq : fits q = true) (h0 : q ≠ 0) (hr : fits r = true) (e : p / q = r) : Fun2 78 (fracV p) (fracV q) (fracV r) := fun W g => by
  subst e; exact y_div p q W hp hq h0 hr g.e
theorem c_neg {q r : Rat} (hq : fits q = true) (e : -q = r) : Fun1 77 (fracV q) (fracV r) := fun W g => by
  subst e; exact y_neg q W hq g.e
theorem c_add1 {q : Rat} (hq : fits q = true) (hr : fits (1 + q) = true) : Fun2 79 oneV (fracV q) (fracV (1 + q)) := fun W g => by
  have T := y_add 1 q W f1 hq hr g.e
  rw [one_is] at T
  exact T
theorem c_sub1 {q : Rat} (hq : fits q = true) (hr : fits (q - 1) = true) : Fun2 94 (fracV q) oneV (fracV (q - 1)) := fun W g => by
  have T := y_sub q 1 W hq f1 hr g.e
  rw [one_is] at T
  exact T
theorem c_sign {q : Rat} (hq : fits q = true) : Fun1 198 (fracV q) (.int .i64 (cmpR q 0)) := fun W g => y_sign q W hq g.e
theorem c_of {n : Int} (h : n.natAbs ≤ 1000000000) : Fun1 7 (.int .i64 n) (fracV ((n : Int) : Rat)) := fun W g => of_any n W (by omega) (by omega) g.e.tab
theorem c_pow {q : Rat} {k : Nat} (hk : k ≤ 1000) (hq : fits q = true) (hr : fits (q ^ k) = true) (h1 : up q ^ k < 10 ^ 300) (h2 : q.den ^ k < 10 ^ 300) : Fun2 197 (fracV q) (.int .i64 (k : Int)) (fracV (q ^ k)) := fun W g =>
  y_power q (q ^ k) (k : Int) W hq hr (by omega) (by omega) (by unfold powR; rw [if_neg (by omega), Int.natAbs_natCast]) (by rw [Int.natAbs_natCast]; exact h1) (by rw [Int.natAbs_natCast]; exact h2) g.e
theorem cmp_zero {q : Rat} (h : q = 0) : cmpR q 0 = 0 := by unfold cmpR; rw [if_pos h]
theorem cmp_ne {q : Rat} (h : q ≠ 0) : cmpR q 0 ≠ 0 := by unfold cmpR; rw [if_neg h]; split <;> decide

theorem pay_any (r g s v w : Rat) (hg : fits g = true) (hs : fits s = true) (h0 : s ≠ 0) (hv : fits v = true) (hw : fits w = true) (h1 : fits (v * g) = true) (h2 : fits (v * g + w) = true) (h3 : fits ((v * g + w) / s) = true) :
    Fun3 82 (termsV r g s) (fracV v) (fracV w) (fracV (-((v * g + w) / s))) := fun W e =>
  payment_walk r g s v w (v * g) (v * g + w) ((v * g + w) / s) (-((v * g + w) / s)) W (c_mul hv hg h1 rfl) (c_add h1 hw h2 rfl) (c_div h2 hs h0 h3 rfl) (c_neg h3 rfl) e

section
variable {a V U : Int} {n k : Nat} (a0 : -9 ≤ a) (a1 : a ≤ 30) (hV : V.natAbs ≤ 1000000) (hU : U.natAbs ≤ 1000000)
include a0 a1
include hV hU
end
end Go.Proofs.YtkbhlkinlcmgoaaGreatDoor.Num.Fy

/- package fmoney at loans of at most 24 periods: the parts of payments, the value now. Conditions: rates of -9 to 30 hundredths; the tables lie as they are laid. -/
namespace Go.Proofs.YtkbhlkinlcmgoaaGreatDoor.Num.Fy
open Go.RowKit Go.Lib Num

section
variable {a V U : Int} {n k : Nat} (a0 : -9 ≤ a) (a1 : a ≤ 30) (hV : V.natAbs ≤ 1000000) (hU : U.natAbs ≤ 1000000)
include a0 a1 hV
include hU
omit hU
end
end Go.Proofs.YtkbhlkinlcmgoaaGreatDoor.Num.Fy
