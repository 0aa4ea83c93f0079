/- Small lemmas of no program: hiding a fact from the walk; a quiet call behind a quiet region; frames. No conditions. -/
import Derived.WalkKit
import Derived.WalkSpells
import Derived.WalkLawsBesides
import Derived.BigQuiet
import Derived.Deep.QuietTactic
import Derived.Lib.Hide
import Derived.StillTailTactics
import Derived.Lib.OthersKept
namespace Go.Proofs.YtjndiielolphgaaDoor
open Go.RowKit

theorem quiet_same {P : Program} {f : FuncId} {args : Array Value} {w : World} {v : Value}
    (h : Calls P f args w fun e w' => e = .returned v ∧ w' = w) : Calls P f args w fun e w'' => e = .returned v ∧ ∃ m, w'' = w.drewN m :=
  h.mono fun _ _ ⟨he, hm⟩ => ⟨he, 0, hm⟩
theorem quiet_add_same {P : Program} {f : FuncId} {args : Array Value} {w : World} {a n : Nat} {v : Value}
    (h : Calls P f args (w.drewN (a + n)) fun e w' => e = .returned v ∧ w' = w.drewN (a + n)) :
    Calls P f args (w.drewN (a + n)) fun e w'' => e = .returned v ∧ ∃ m, w'' = w.drewN (a + m) :=
  h.mono fun _ _ ⟨he, hm⟩ => ⟨he, n, hm⟩

theorem ret_int {k : IntKind} {a b : Int} (h : a = b) : Ending.returned (.int k a) = .returned (.int k b) := by rw [h]
theorem ret_bool {a b : Bool} (h : a = b) : Ending.returned (.bool a) = .returned (.bool b) := by rw [h]
theorem ret_str {a b : ByteArray} (h : a = b) : Ending.returned (.string a) = .returned (.string b) := by rw [h]
theorem int_beq (a b : Nat) : ((a : Int) == (b : Int)) = (a == b) := by
  rw [Bool.eq_iff_iff]; simp only [beq_iff_eq]; omega

theorem only_refl (w : World) (row : Option Nat) : w.grownBy w row := ⟨rfl, rfl, rfl, Nat.le_refl _, fun _ _ _ => rfl⟩
theorem only_trans {a b c : World} {row : Option Nat} (h : a.grownBy b row) (k : b.grownBy c row) : a.grownBy c row :=
  ⟨k.os.trans h.os, k.tape.trans h.tape, k.output.trans h.output, Nat.le_trans h.size k.size, fun i hi hne => (k.block i (Nat.lt_of_lt_of_le hi h.size) hne).trans (h.block i hi hne)⟩
theorem only_drewN {a w : World} {row : Option Nat} (h : a.grownBy w row) (n : Nat) : a.grownBy (w.drewN n) row := ⟨h.os, h.tape, h.output, h.size, h.block⟩
theorem only_alloc {a w : World} {row : Option Nat} (h : a.grownBy w row) (o : Obj) : a.grownBy (w.alloc o) row :=
  ⟨h.os, h.tape, h.output, Nat.le_trans h.size (by simp), fun i hi hne => (Below.heap_alloc w o i (Nat.lt_of_lt_of_le hi h.size)).trans (h.block i hi hne)⟩
theorem only_setCell {a w : World} {g : Nat} (h : a.grownBy w (some g)) {p : Addr} (hp : p.block = g ∨ a.heap.size ≤ p.block) (u : Value) : a.grownBy (w.setCell p u) (some g) :=
  ⟨h.os, h.tape, h.output, by simpa [World.setCell] using h.size, fun i hi hne => (Below.heap_setCell w p u i (by
    rintro rfl
    rcases hp with hp | hp
    · exact hne (by rw [hp])
    · omega)).trans (h.block i hi hne)⟩
theorem only_of_below {a w : World} (h : Below a.heap.size a w) (row : Option Nat) : a.grownBy w row := ⟨h.os, h.tape, h.output, h.size, fun i hi _ => h.block i hi⟩
/-- a step that writes row 'r2' behind a stretch that writes row 'row': r2 is row itself, none, or new -/
theorem only_then {a b c : World} {row r2 : Option Nat} (h : a.grownBy b row) (k : b.grownBy c r2) (hr : ∀ g, r2 = some g → some g = row ∨ a.heap.size ≤ g) : a.grownBy c row :=
  ⟨k.os.trans h.os, k.tape.trans h.tape, k.output.trans h.output, Nat.le_trans h.size k.size, fun i hi hne => (k.block i (Nat.lt_of_lt_of_le hi h.size) (fun e => by
    rcases hr i e.symm with h1 | h1
    · exact hne h1
    · omega)).trans (h.block i hi hne)⟩
theorem below_of_only {a w : World} {g : Nat} (h : a.grownBy w (some g)) {B : Nat} (hB : B ≤ g) (hs : B ≤ a.heap.size) : Below B a w :=
  ⟨h.os, h.tape, h.output, h.size, fun k hk => h.block k (by omega) (fun e => by injection e; omega)⟩
theorem below_none {a w : World} (h : a.grownBy w none) : Below a.heap.size a w :=
  ⟨h.os, h.tape, h.output, h.size, fun k hk => h.block k hk (fun e => by cases e)⟩

/-- all blocks of element type S stand as they stood -/
def KeepKind (S : TypeId) (w w' : World) : Prop := ∀ (k : Nat) (c : Array Value) (fz : Nat × Nat), w.heap[k]? = some (Obj.cells c S fz) → w'.heap[k]? = some (Obj.cells c S fz)
theorem KeepKind.refl (S : TypeId) (w : World) : KeepKind S w w := fun _ _ _ h => h
theorem KeepKind.trans {S : TypeId} {a b c : World} (h : KeepKind S a b) (k : KeepKind S b c) : KeepKind S a c := fun i x fz hi => k i x fz (h i x fz hi)
theorem heap_lt {w : World} {k : Nat} {o : Obj} (h : w.heap[k]? = some o) : k < w.heap.size := (Array.getElem?_eq_some_iff.1 h).1
theorem KeepKind.only {S R : TypeId} {a b : World} {row : Option Nat} (h : a.grownBy b row) (hr : ∀ g, row = some g → g < a.heap.size → ∃ c fz, a.heap[g]? = some (.cells c R fz)) (hne : R ≠ S) : KeepKind S a b := by
  intro k c fz hk
  have hlt := heap_lt hk
  rw [h.block k hlt ?_]
  · exact hk
  · intro e
    obtain ⟨c', fz', h'⟩ := hr k e.symm hlt
    rw [hk] at h'
    simp only [Option.some.injEq, Obj.cells.injEq] at h'
    exact hne h'.2.1.symm
theorem KeepKind.below {S : TypeId} {a b : World} (h : Below a.heap.size a b) : KeepKind S a b := fun k _ _ hk => (h.block k (heap_lt hk)).trans hk
theorem KeepKind.owns {S : TypeId} {w w' : World} (h : KeepKind S w w') {B size n : Nat} {v : Value} {xs : List Value} (ho : w.ownsRow B S size v n xs) : w'.ownsRow B S size v n xs := by
  refine ⟨ho.1, ?_⟩
  rcases ho.2 with hn | ⟨g, cap, cur, rfl, hb, hg, rest⟩
  · exact .inl hn
  · exact .inr ⟨g, cap, cur, rfl, hb, h g _ _ hg, rest⟩
theorem owns_kind {w : World} {B size n : Nat} {S : TypeId} {v : Value} {xs : List Value} (ho : w.ownsRow B S size v n xs) : ∀ g, v.ownBlock = some g → ∃ c fz, w.heap[g]? = some (.cells c S fz) := by
  intro g hg
  rcases ho.2 with ⟨rfl, _⟩ | ⟨g', cap, cur, rfl, _, hgg, _⟩
  · simp [Value.ownBlock] at hg
  · simp [Value.ownBlock] at hg
    subst hg
    exact ⟨cur, _, hgg⟩
theorem owns_mono {w : World} {B B' size n : Nat} {S : TypeId} {v : Value} {xs : List Value} (ho : w.ownsRow B S size v n xs) (h : B' ≤ B) : w.ownsRow B' S size v n xs := by
  refine ⟨ho.1, ?_⟩
  rcases ho.2 with hn | ⟨g, cap, cur, rfl, hb, hg, rest⟩
  · exact .inl hn
  · exact .inr ⟨g, cap, cur, rfl, by omega, hg, rest⟩
theorem owns_drewN {w : World} {B size n : Nat} {S : TypeId} {v : Value} {xs : List Value} (ho : w.ownsRow B S size v n xs) (k : Nat) : (w.drewN k).ownsRow B S size v n xs := ho
theorem heap_setCell_at {w : World} {b : Nat} {cs : Array Value} {T : TypeId} {fz : Nat × Nat} (h : w.heap[b]? = some (.cells cs T fz)) (j : Nat) (v : Value) :
    (w.setCell ⟨b, j, none⟩ v).heap[b]? = some (.cells (cs.setIfInBounds j v) T fz) := by
  simp [World.setCell, Array.getElem?_modify, h]
theorem alloc_at (w : World) (o : Obj) (k : Nat) (h : w.heap.size = k) : (w.alloc o).heap[k]? = some o := by subst h; exact heap_alloc_new w o
theorem size_setCell (w : World) (p : Addr) (v : Value) : (w.setCell p v).heap.size = w.heap.size := by simp [World.setCell]
end Go.Proofs.YtjndiielolphgaaDoor
