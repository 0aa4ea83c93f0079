/- Numbers as texts of digits, fractions, values and the functions of fmath: contracts of the program's functions, joined from smaller texts. Conditions stand at each theorem. -/
import Derived.Test.YtnlaecjniellpaaGreatDoorRows
import Derived.LaidByTextLater

/- The places of what a row lists are all different, by one walk over them with a mask of bits (asked pair by pair they pass the kernel's memory). Plain. -/
set_option linter.unusedVariables false
set_option linter.unusedSimpArgs false
namespace Go.Proofs.YtnlaecjniellpaaGreatDoor.Parted
open Go

/-- a place's number: its block, its offset below 512 -/
def keyP : MemPlace → Nat
  | .cell b off => 2 * (b * 512 + off)
  | .map b => 2 * (b * 512) + 1
def fitP : MemPlace → Bool
  | .cell _ off => Nat.blt off 512
  | .map _ => true
def maskB : List MemPlace → Nat → Bool
  | [], _ => true
  | p :: l, m => fitP p && (!(m.testBit (keyP p)) && maskB l (m ||| 1 <<< keyP p))
theorem keyP_inj : ∀ {p q : MemPlace}, fitP p = true → fitP q = true → keyP p = keyP q → p = q
  | .cell b o, .cell c r, hp, hq, h => by
    simp only [fitP, Nat.blt_eq] at hp hq
    simp only [keyP] at h
    have h1 : b = c := by omega
    have h2 : o = r := by omega
    rw [h1, h2]
  | .cell b o, .map c, _, _, h => by simp only [keyP] at h; omega
  | .map b, .cell c r, _, _, h => by simp only [keyP] at h; omega
  | .map b, .map c, _, _, h => by
    simp only [keyP] at h
    have h1 : b = c := by omega
    rw [h1]
theorem mask_spec : ∀ (l : List MemPlace) (m : Nat), maskB l m = true → l.Nodup ∧ ∀ p ∈ l, fitP p = true ∧ m.testBit (keyP p) = false
  | [], _, _ => ⟨List.nodup_nil, fun _ h => absurd h (List.not_mem_nil)⟩
  | p :: l, m, h => by
    unfold maskB at h
    rw [Bool.and_eq_true, Bool.and_eq_true] at h
    obtain ⟨h1, h2, h3⟩ := h
    obtain ⟨n, a⟩ := mask_spec l _ h3
    have hb : ∀ q ∈ l, m.testBit (keyP q) = false ∧ keyP q ≠ keyP p := by
      intro q hq
      have := (a q hq).2
      rw [Nat.testBit_or, Bool.or_eq_false_iff] at this
      refine ⟨this.1, fun e => ?_⟩
      rw [e] at this
      have h4 : (1 <<< keyP p).testBit (keyP p) = true := by rw [Nat.one_shiftLeft, Nat.testBit_two_pow_self]
      rw [h4] at this
      exact absurd this.2 (by decide)
    refine ⟨List.nodup_cons.2 ⟨fun hp => (hb p hp).2 rfl, n⟩, fun q hq => ?_⟩
    rcases List.mem_cons.1 hq with rfl | hq
    · exact ⟨h1, by simpa using h2⟩
    · exact ⟨(a q hq).1, (hb q hq).1⟩
/-- the run's places are different; the run's places stand in rows -/
def runMask (r : Option (List (String × DataW Unit) × List MemPlace)) : Bool := match r with | some x => maskB x.2 0 | none => false
def runRows (P : Program) (w : World) (r : Option (List (String × DataW Unit) × List MemPlace)) : Bool := match r with | some x => laidRowsB P w x.2 | none => false
theorem run_both {P : Program} {w : World} {r : Option (List (String × DataW Unit) × List MemPlace)} (h1 : runMask r = true) (h2 : runRows P w r = true) : r.map (fun x => decide x.2.Nodup && laidRowsB P w x.2) = some true := by
  cases r with
  | none => cases h1
  | some x =>
    simp only [runMask] at h1
    simp only [runRows] at h2
    simp only [Option.map_some, h2, Bool.and_true]
    rw [decide_eq_true (mask_spec _ _ h1).1]
end Go.Proofs.YtnlaecjniellpaaGreatDoor.Parted
