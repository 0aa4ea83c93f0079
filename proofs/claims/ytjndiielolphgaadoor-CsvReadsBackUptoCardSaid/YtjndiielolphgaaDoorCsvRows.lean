/- Slices of strings, and slices of these, that a call owns, as lists of texts. No conditions; no function of the program. -/
import Derived.Test.YtjndiielolphgaaDoorKit
import Derived.Test.YtjndiielolphgaaDoorCsvPlain
namespace Go.Proofs.YtjndiielolphgaaDoor
open Go.RowKit

def strV (b : Csv.Bytes) : Value := .string ⟨b.toArray⟩
def strCells (ss : List Csv.Bytes) : List Value := ss.map strV

/-- v is a slice of strings (element type S) of the call's own, reading as ss. -/
def OwnStrs (S : TypeId) (B : Nat) (v : Value) (ss : List Csv.Bytes) (w : World) : Prop := w.ownsRow B S 1 v ss.length (strCells ss)

/-- .. each of a list of values -/
def RowsHold (S : TypeId) (B : Nat) (w : World) : List Value → List (List Csv.Bytes) → Prop
  | [], [] => True
  | v :: vs, r :: rs => OwnStrs S B v r w ∧ RowsHold S B w vs rs
  | _, _ => False

theorem RowsHold.length {S : TypeId} {B : Nat} {w : World} : ∀ {vs : List Value} {rs : List (List Csv.Bytes)}, RowsHold S B w vs rs → vs.length = rs.length
  | [], [], _ => rfl
  | _ :: _, _ :: _, h => by simp [RowsHold.length h.2]
  | [], _ :: _, h => h.elim
  | _ :: _, [], h => h.elim

theorem OwnStrs.keep {S : TypeId} {B : Nat} {v : Value} {ss : List Csv.Bytes} {w w' : World} (h : OwnStrs S B v ss w) (hk : KeepKind S w w') : OwnStrs S B v ss w' := hk.owns h
theorem OwnStrs.mono {S : TypeId} {B B' : Nat} {v : Value} {ss : List Csv.Bytes} {w : World} (h : OwnStrs S B v ss w) (hB : B' ≤ B) : OwnStrs S B' v ss w := owns_mono h hB

theorem RowsHold.keep {S : TypeId} {B : Nat} {w w' : World} (hk : KeepKind S w w') : ∀ {vs : List Value} {rs : List (List Csv.Bytes)}, RowsHold S B w vs rs → RowsHold S B w' vs rs
  | [], [], _ => trivial
  | _ :: _, _ :: _, h => ⟨h.1.keep hk, RowsHold.keep hk h.2⟩
  | [], _ :: _, h => h.elim
  | _ :: _, [], h => h.elim

theorem RowsHold.snoc {S : TypeId} {B : Nat} {w : World} {v : Value} {r : List Csv.Bytes} (hv : OwnStrs S B v r w) : ∀ {vs : List Value} {rs : List (List Csv.Bytes)}, RowsHold S B w vs rs → RowsHold S B w (vs ++ [v]) (rs ++ [r])
  | [], [], _ => ⟨hv, trivial⟩
  | _ :: _, _ :: _, h => ⟨h.1, RowsHold.snoc hv h.2⟩
  | [], _ :: _, h => h.elim
  | _ :: _, [], h => h.elim

theorem RowsHold.at {S : TypeId} {B : Nat} {w : World} : ∀ {vs : List Value} {rs : List (List Csv.Bytes)}, RowsHold S B w vs rs → ∀ (i : Nat) (hv : i < vs.length) (hr : i < rs.length), OwnStrs S B (vs[i]'hv) (rs[i]'hr) w
  | _ :: _, _ :: _, h, 0, _, _ => h.1
  | _ :: _, _ :: _, h, i + 1, hv, hr => RowsHold.at h.2 i (by simpa using hv) (by simpa using hr)
  | [], _ :: _, h, _, _, _ => h.elim
  | _ :: _, [], h, _, _, _ => h.elim

/-- v is a slice (element type T) of slices of strings, all of the call's own, reading as rs -/
def OwnRows (T S : TypeId) (B : Nat) (v : Value) (rs : List (List Csv.Bytes)) (w : World) : Prop := ∃ vs : List Value, w.ownsRow B T 1 v rs.length vs ∧ RowsHold S B w vs rs

theorem OwnRows.keep {T S : TypeId} {B : Nat} {v : Value} {rs : List (List Csv.Bytes)} {w w' : World} (h : OwnRows T S B v rs w) (hT : KeepKind T w w') (hS : KeepKind S w w') : OwnRows T S B v rs w' := by
  obtain ⟨vs, h1, h2⟩ := h
  exact ⟨vs, hT.owns h1, h2.keep hS⟩
theorem OwnRows.nil (T S : TypeId) (B : Nat) (w : World) : OwnRows T S B (.slice none 0 0) [] w := ⟨[], World.ownsRow_nil _ _ _ _, trivial⟩
theorem OwnStrs.nil (S : TypeId) (B : Nat) (w : World) : OwnStrs S B (.slice none 0 0) [] w := World.ownsRow_nil _ _ _ _

/-- the value of a slice that is owned -/
theorem owns_form {w : World} {B size n : Nat} {e : TypeId} {v : Value} {xs : List Value} (h : w.ownsRow B e size v n xs) : ∃ a cap, v = .slice a n cap := by
  rcases h.2 with ⟨rfl, rfl⟩ | ⟨g, cap, cur, rfl, _⟩
  · exact ⟨_, _, rfl⟩
  · exact ⟨_, _, rfl⟩
theorem owns_oneCell {w : World} {B n : Nat} {e : TypeId} {v : Value} {xs : List Value} (h : w.ownsRow B e 1 v n xs) : v.oneCell' = true := by
  obtain ⟨a, cap, rfl⟩ := owns_form h
  rfl
theorem strCells_snoc (ss : List Csv.Bytes) (b : Csv.Bytes) : strCells (ss ++ [b]) = strCells ss ++ [strV b] := by simp [strCells]
end Go.Proofs.YtjndiielolphgaaDoor
