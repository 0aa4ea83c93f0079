/- The reference's Rune at every text that is not empty: the model's own decoding, (0, 0) where that finds no right character. Conditions: the text is not empty and has at most 4000000000 bytes. -/
import Derived.Test.YtjndiielolphgaaDoorRune
import Derived.Laws.RangeAny
namespace Go.Proofs.YtjndiielolphgaaDoor
open Go.RowKit

/-- what Rune returns -/
def runeN (d : Nat × Nat) : Nat × Nat := if d.1 = 65533 ∧ d.2 = 1 then (0, 0) else d

theorem rune_any (s : ByteArray) (w : World) (h0 : 0 < s.size) (hs : s.size ≤ 4000000000) :
    Calls Tryd.prog 25 #[.string s] w fun e w' => e = .returned (.tuple #[.int .i64 (runeN (Utf8.decode s 0)).1, .int .i64 (runeN (Utf8.decode s 0)).2]) ∧ w' = w := by
  have gp : ∀ k (h : k < s.size), (s.get! k).toNat = (s[k]'h).toNat := fun k h => by rw [← get_at s k h]; rfl
  rw [Lib.decode_at]
  simp only [Nat.sub_zero, Nat.zero_add]
  obtain ⟨x0, e0⟩ : ∃ x0, (s.get! 0).toNat = x0 := ⟨_, rfl⟩
  obtain ⟨x1, e1⟩ : ∃ x1, (s.get! 1).toNat = x1 := ⟨_, rfl⟩
  obtain ⟨x2, e2⟩ : ∃ x2, (s.get! 2).toNat = x2 := ⟨_, rfl⟩
  obtain ⟨x3, e3⟩ : ∃ x3, (s.get! 3).toNat = x3 := ⟨_, rfl⟩
  have m0 : x0 < 256 := by rw [← e0]; exact UInt8.toNat_lt _
  have m1 : x1 < 256 := by rw [← e1]; exact UInt8.toNat_lt _
  have m2 : x2 < 256 := by rw [← e2]; exact UInt8.toNat_lt _
  have m3 : x3 < 256 := by rw [← e3]; exact UInt8.toNat_lt _
  have f0 : (s[0]'h0).toNat = x0 := by rw [← gp 0 h0]; exact e0
  have f1 : ∀ h : 1 < s.size, (s[1]'h).toNat = x1 := fun h => by rw [← gp 1 h]; exact e1
  have f2 : ∀ h : 2 < s.size, (s[2]'h).toNat = x2 := fun h => by rw [← gp 2 h]; exact e2
  have f3 : ∀ h : 3 < s.size, (s[3]'h).toNat = x3 := fun h => by rw [← gp 3 h]; exact e3
  rw [e0, e1, e2, e3]
  have fin : ∀ {a b : Int} {p : Nat × Nat}, (Calls Tryd.prog 25 #[.string s] w fun e w' => e = .returned (.tuple #[.int .i64 a, .int .i64 b]) ∧ w' = w) → a = (p.1 : Int) → b = (p.2 : Int) →
      Calls Tryd.prog 25 #[.string s] w fun e w' => e = .returned (.tuple #[.int .i64 p.1, .int .i64 p.2]) ∧ w' = w := by
    intro a b p h ha hb
    subst ha; subst hb
    exact h
  have bad : ∀ {n a b c d : Nat}, Lib.decodeN n a b c d = (65533, 1) → ((0 : Int) = ((runeN (Lib.decodeN n a b c d)).1 : Nat) ∧ (0 : Int) = ((runeN (Lib.decodeN n a b c d)).2 : Nat)) := by
    intro n a b c d h
    rw [h]; exact ⟨rfl, rfl⟩
  have good : ∀ {n a b c d : Nat} {p : Nat × Nat}, Lib.decodeN n a b c d = p → ¬ (p.1 = 65533 ∧ p.2 = 1) → runeN (Lib.decodeN n a b c d) = p := by
    intro n a b c d p h hp
    rw [h, runeN, if_neg hp]
  by_cases a1 : x0 < 128
  · have hd : Lib.decodeN s.size x0 x1 x2 x3 = (x0, 1) := by simp only [Lib.decodeN, a1, if_true]
    rw [good hd (by simp; omega)]
    exact rune_ascii s x0 w (by omega) hs f0 m0 a1
  have n2 : ¬ (x0 / 32 = 6) ∨ (192 ≤ x0 ∧ x0 < 224) := by omega
  by_cases a2 : x0 < 194
  · have hd : Lib.decodeN s.size x0 x1 x2 x3 = (65533, 1) := by
      unfold Lib.decodeN
      rw [if_neg a1]
      split
      · rw [if_neg (by omega)]
      · rw [if_neg (by omega), if_neg (by omega)]
    obtain ⟨g1, g2⟩ := bad hd
    exact fin (rune_low s x0 w (by omega) hs f0 m0 (by omega) a2) g1 g2
  by_cases a3 : 245 ≤ x0
  · have hd : Lib.decodeN s.size x0 x1 x2 x3 = (65533, 1) := by
      unfold Lib.decodeN
      rw [if_neg a1, if_neg (by omega), if_neg (by omega)]
      split
      · rw [if_neg (by omega)]
      · rfl
    obtain ⟨g1, g2⟩ := bad hd
    exact fin (rune_high s x0 w (by omega) hs f0 m0 a3) g1 g2
  by_cases a4 : x0 < 224
  · by_cases k1 : 1 < s.size
    · by_cases q1 : x1 / 64 = 2
      · have hd : Lib.decodeN s.size x0 x1 x2 x3 = (x0 % 32 * 64 + x1 % 64, 2) := by
          unfold Lib.decodeN
          rw [if_neg a1, if_pos ⟨by omega, k1, q1⟩, if_pos (by omega)]
        rw [good hd (by simp)]
        exact fin (rune_ok2 s x0 x1 w (by omega) hs f0 m0 (f1 k1) m1 (by omega) a4 q1) (by simp) rfl
      · have hd : Lib.decodeN s.size x0 x1 x2 x3 = (65533, 1) := by
          unfold Lib.decodeN
          rw [if_neg a1, if_neg (by omega), if_neg (by omega), if_neg (by omega)]
        obtain ⟨g1, g2⟩ := bad hd
        exact fin (rune_cont21 s x0 x1 w (by omega) hs f0 m0 (f1 k1) m1 (by omega) a4 (by omega) q1) g1 g2
    · have hd : Lib.decodeN s.size x0 x1 x2 x3 = (65533, 1) := by
        unfold Lib.decodeN
        rw [if_neg a1, if_neg (by omega), if_neg (by omega), if_neg (by omega)]
      obtain ⟨g1, g2⟩ := bad hd
      exact fin (rune_short2 s x0 w (by omega) hs f0 m0 (by omega) a4 (by omega)) g1 g2
  by_cases a5 : x0 < 240
  · by_cases k2 : 2 < s.size
    · by_cases q1 : x1 / 64 = 2
      · by_cases q2 : x2 / 64 = 2
        · obtain ⟨c, hc⟩ : ∃ c, x0 % 16 * 4096 + x1 % 64 * 64 + x2 % 64 = c := ⟨_, rfl⟩
          have ci : ((x0 : Int) % 16 * 64 + (x1 : Int) % 64) * 64 + (x2 : Int) % 64 = (c : Int) := by omega
          have hd0 : Lib.decodeN s.size x0 x1 x2 x3 = if c ≥ 2048 ∧ (c < 55296 ∨ (57344 ≤ c ∧ c ≤ 1114111)) then (c, 3) else (65533, 1) := by
            unfold Lib.decodeN
            rw [if_neg a1, if_neg (by omega), if_pos ⟨by omega, ⟨by omega, q1⟩, ⟨by omega, q2⟩⟩, hc]
          have cm : c < 65536 := by omega
          by_cases b1 : c < 2048
          · rw [if_neg (by omega)] at hd0
            obtain ⟨g1, g2⟩ := bad hd0
            exact fin (rune_low3 s x0 x1 x2 w (by omega) hs f0 m0 (f1 (by omega)) m1 (f2 k2) m2 (by omega) a5 q1 q2 (by omega)) g1 g2
          · by_cases b2 : c < 55296
            · rw [if_pos (by omega)] at hd0
              rw [good hd0 (by simp)]
              exact fin (rune_ok3 s x0 x1 x2 w (by omega) hs f0 m0 (f1 (by omega)) m1 (f2 k2) m2 (by omega) a5 q1 q2 (by omega) (by omega)) ci rfl
            · by_cases b3 : c < 57344
              · rw [if_neg (by omega)] at hd0
                obtain ⟨g1, g2⟩ := bad hd0
                exact fin (rune_sur3 s x0 x1 x2 w (by omega) hs f0 m0 (f1 (by omega)) m1 (f2 k2) m2 (by omega) a5 q1 q2 (by omega) (by omega)) g1 g2
              · rw [if_pos (by omega)] at hd0
                rw [good hd0 (by simp)]
                exact fin (rune_okb3 s x0 x1 x2 w (by omega) hs f0 m0 (f1 (by omega)) m1 (f2 k2) m2 (by omega) a5 q1 q2 (by omega)) ci rfl
        · have hd : Lib.decodeN s.size x0 x1 x2 x3 = (65533, 1) := by
            unfold Lib.decodeN
            rw [if_neg a1, if_neg (by omega), if_neg (by omega), if_neg (by omega)]
          obtain ⟨g1, g2⟩ := bad hd
          exact fin (rune_cont32 s x0 x1 x2 w (by omega) hs f0 m0 (f1 (by omega)) m1 (f2 k2) m2 (by omega) a5 (by omega) q1 q2) g1 g2
      · have hd : Lib.decodeN s.size x0 x1 x2 x3 = (65533, 1) := by
          unfold Lib.decodeN
          rw [if_neg a1, if_neg (by omega), if_neg (by omega), if_neg (by omega)]
        obtain ⟨g1, g2⟩ := bad hd
        exact fin (rune_cont31 s x0 x1 w (by omega) hs f0 m0 (f1 (by omega)) m1 (by omega) a5 (by omega) q1) g1 g2
    · have hd : Lib.decodeN s.size x0 x1 x2 x3 = (65533, 1) := by
        unfold Lib.decodeN
        rw [if_neg a1, if_neg (by omega), if_neg (by omega), if_neg (by omega)]
      obtain ⟨g1, g2⟩ := bad hd
      exact fin (rune_short3 s x0 w (by omega) hs f0 m0 (by omega) a5 (by omega)) g1 g2
  by_cases k3 : 3 < s.size
  · by_cases q1 : x1 / 64 = 2
    · by_cases q2 : x2 / 64 = 2
      · by_cases q3 : x3 / 64 = 2
        · obtain ⟨c, hc⟩ : ∃ c, x0 % 8 * 262144 + x1 % 64 * 4096 + x2 % 64 * 64 + x3 % 64 = c := ⟨_, rfl⟩
          have ci : (((x0 : Int) % 8 * 64 + (x1 : Int) % 64) * 64 + (x2 : Int) % 64) * 64 + (x3 : Int) % 64 = (c : Int) := by omega
          have hd0 : Lib.decodeN s.size x0 x1 x2 x3 = if c ≥ 65536 ∧ (c < 55296 ∨ (57344 ≤ c ∧ c ≤ 1114111)) then (c, 4) else (65533, 1) := by
            unfold Lib.decodeN
            rw [if_neg a1, if_neg (by omega), if_neg (by omega), if_pos ⟨by omega, ⟨by omega, q1⟩, ⟨by omega, q2⟩, ⟨by omega, q3⟩⟩, hc]
          by_cases b1 : c < 65536
          · rw [if_neg (by omega)] at hd0
            obtain ⟨g1, g2⟩ := bad hd0
            exact fin (rune_low4 s x0 x1 x2 x3 w (by omega) hs f0 m0 (f1 (by omega)) m1 (f2 (by omega)) m2 (f3 k3) m3 (by omega) (by omega) q1 q2 q3 (by omega)) g1 g2
          · by_cases b2 : c ≤ 1114111
            · rw [if_pos (by omega)] at hd0
              rw [good hd0 (by simp)]
              exact fin (rune_ok4 s x0 x1 x2 x3 w (by omega) hs f0 m0 (f1 (by omega)) m1 (f2 (by omega)) m2 (f3 k3) m3 (by omega) (by omega) q1 q2 q3 (by omega) (by omega)) ci rfl
            · rw [if_neg (by omega)] at hd0
              obtain ⟨g1, g2⟩ := bad hd0
              exact fin (rune_big4 s x0 x1 x2 x3 w (by omega) hs f0 m0 (f1 (by omega)) m1 (f2 (by omega)) m2 (f3 k3) m3 (by omega) (by omega) q1 q2 q3 (by omega)) g1 g2
        · have hd : Lib.decodeN s.size x0 x1 x2 x3 = (65533, 1) := by
            unfold Lib.decodeN
            rw [if_neg a1, if_neg (by omega), if_neg (by omega), if_neg (by omega)]
          obtain ⟨g1, g2⟩ := bad hd
          exact fin (rune_cont43 s x0 x1 x2 x3 w (by omega) hs f0 m0 (f1 (by omega)) m1 (f2 (by omega)) m2 (f3 k3) m3 (by omega) (by omega) (by omega) q1 q2 q3) g1 g2
      · have hd : Lib.decodeN s.size x0 x1 x2 x3 = (65533, 1) := by
          unfold Lib.decodeN
          rw [if_neg a1, if_neg (by omega), if_neg (by omega), if_neg (by omega)]
        obtain ⟨g1, g2⟩ := bad hd
        exact fin (rune_cont42 s x0 x1 x2 w (by omega) hs f0 m0 (f1 (by omega)) m1 (f2 (by omega)) m2 (by omega) (by omega) (by omega) q1 q2) g1 g2
    · have hd : Lib.decodeN s.size x0 x1 x2 x3 = (65533, 1) := by
        unfold Lib.decodeN
        rw [if_neg a1, if_neg (by omega), if_neg (by omega), if_neg (by omega)]
      obtain ⟨g1, g2⟩ := bad hd
      exact fin (rune_cont41 s x0 x1 w (by omega) hs f0 m0 (f1 (by omega)) m1 (by omega) (by omega) (by omega) q1) g1 g2
  · have hd : Lib.decodeN s.size x0 x1 x2 x3 = (65533, 1) := by
      unfold Lib.decodeN
      rw [if_neg a1, if_neg (by omega), if_neg (by omega), if_neg (by omega)]
    obtain ⟨g1, g2⟩ := bad hd
    exact fin (rune_short4 s x0 w (by omega) hs f0 m0 (by omega) (by omega) (by omega)) g1 g2
end Go.Proofs.YtjndiielolphgaaDoor
