/- Numbers as texts of digits, fractions, values and the functions of fmath: contracts of the program's functions, joined from smaller texts. Conditions stand at each theorem. -/
import Derived.Test.YtnlaecjniellpaaGreatDoorNumH
import Derived.Laws.IdiomStrings
import Derived.Laws.BytesArg

/- Numbers in Roman signs: written by the table of values, read back; each number below 4000 is read back, so no two have the same signs. Plain: of no program. -/
set_option linter.unusedVariables false
set_option linter.unusedSimpArgs false
namespace Go.Proofs.YtnlaecjniellpaaGreatDoor.Num

/-- the values and their small signs -/
def romT : List (Nat × List UInt8) := [(1000, [109]), (900, [99, 109]), (500, [100]), (400, [99, 100]), (100, [99]), (90, [120, 99]), (50, [108]), (40, [120, 108]), (10, [120]), (9, [105, 120]), (5, [118]), (4, [105, 118]), (1, [105])]
/-- a sign some times -/
def timesL (s : List UInt8) : Nat → List UInt8
  | 0 => []
  | n + 1 => s ++ timesL s n
/-- n in Roman signs (small ones) over the rest of the table -/
def romL : List (Nat × List UInt8) → Nat → List UInt8
  | [], _ => []
  | (v, s) :: t, n => timesL s (n / v) ++ romL t (n % v)
def romanL (n : Nat) : List UInt8 := romL romT n
/-- what a sign stands for -/
def signV (c : UInt8) : Nat := if c = 109 then 1000 else if c = 100 then 500 else if c = 99 then 100 else if c = 108 then 50 else if c = 120 then 10 else if c = 118 then 5 else if c = 105 then 1 else 0
/-- signs read: a smaller one ahead of a greater one is taken away -/
def readL : List UInt8 → Int
  | [] => 0
  | [c] => (signV c : Int)
  | c :: d :: t => (if signV c < signV d then -(signV c : Int) else (signV c : Int)) + readL (d :: t)
set_option maxRecDepth 100000 in
theorem roman_read : ∀ n : Fin 4000, readL (romanL n.1) = (n.1 : Int) := by decide +kernel
theorem roman_inj {m n : Nat} (hm : m < 4000) (hn : n < 4000) (h : romanL m = romanL n) : m = n := by
  have h1 := roman_read ⟨m, hm⟩
  have h2 := roman_read ⟨n, hn⟩
  simp only at h1 h2
  rw [h, h2] at h1
  omega
end Go.Proofs.YtnlaecjniellpaaGreatDoor.Num

/- Numbers in other systems: digits to a base, most significant first, zeros ahead, read back. Plain: of no program. -/
namespace Go.Proofs.YtnlaecjniellpaaGreatDoor.Num

/-- n's digits ahead of those that are written, as BASE's loop writes them -/
def baseGo (k : Nat) : Nat → Nat → List Nat → List Nat
  | 0, _, s => s
  | f + 1, n, s => if 0 < n ∨ s = [] then baseGo k f (n / k) (n % k :: s) else s
/-- the digits of n to the base k (k from 2 on) -/
def baseD (k n : Nat) : List Nat := baseGo k (n + 1) n []
/-- digits read -/
def readD (k : Nat) (s : List Nat) : Nat := s.foldl (fun a d => a * k + d) 0
theorem readD_go (k : Nat) (s : List Nat) (a : Nat) : s.foldl (fun a d => a * k + d) a = a * k ^ s.length + readD k s := by
  induction s generalizing a with
  | nil => simp [readD]
  | cons d s ih =>
    unfold readD
    rw [List.foldl_cons, List.foldl_cons, ih, ih (0 * k + d), List.length_cons, Nat.pow_succ, Nat.zero_mul, Nat.zero_add, Nat.add_mul, Nat.mul_assoc, Nat.mul_comm k, Nat.add_assoc]
theorem readD_cons (k d : Nat) (s : List Nat) : readD k (d :: s) = d * k ^ s.length + readD k s := by
  have := readD_go k s d
  unfold readD at this ⊢
  rw [List.foldl_cons, Nat.zero_mul, Nat.zero_add]
  exact this
theorem readD_zeros (k m : Nat) (s : List Nat) : readD k (List.replicate m 0 ++ s) = readD k s := by
  induction m with
  | zero => rfl
  | succ m ih => rw [List.replicate_succ, List.cons_append, readD_cons, Nat.zero_mul, Nat.zero_add, ih]
theorem base_go (k : Nat) (hk : 2 ≤ k) : ∀ (f n : Nat) (s : List Nat), n < f → readD k (baseGo k f n s) = n * k ^ s.length + readD k s
  | 0, n, s, h => absurd h (Nat.not_lt_zero _)
  | f + 1, n, s, h => by
    unfold baseGo
    split
    · rcases Nat.eq_zero_or_pos n with h0 | h0
      · subst h0
        rw [Nat.zero_div, Nat.zero_mod, Nat.zero_mul, Nat.zero_add]
        cases f with
        | zero => unfold baseGo; rw [readD_cons, Nat.zero_mul, Nat.zero_add]
        | succ f => rw [base_go k hk (f + 1) 0 _ (Nat.succ_pos f), readD_cons]; omega
      · have hlt : n / k < f := Nat.lt_of_lt_of_le (Nat.div_lt_self h0 hk) (Nat.le_of_lt_succ h)
        rw [base_go k hk f (n / k) _ hlt, readD_cons, List.length_cons, Nat.pow_succ, ← Nat.add_assoc, ← Nat.mul_assoc, Nat.mul_right_comm, ← Nat.add_mul, Nat.div_add_mod']
    · rename_i hn
      have : n = 0 := by
        rcases Nat.eq_zero_or_pos n with h0 | h0
        · exact h0
        · exact absurd (.inl h0) hn
      rw [this, Nat.zero_mul, Nat.zero_add]
theorem base_lt (k : Nat) (hk : 2 ≤ k) : ∀ (f n : Nat) (s : List Nat), (∀ d ∈ s, d < k) → ∀ d ∈ baseGo k f n s, d < k
  | 0, _, s, h => h
  | f + 1, n, s, h => by
    unfold baseGo
    split
    · refine base_lt k hk f (n / k) _ ?_
      intro d hd
      rcases List.mem_cons.1 hd with rfl | hd
      · exact Nat.mod_lt _ (by omega)
      · exact h d hd
    · exact h
/-- the step of the loop: the digit goes ahead; the loop ends where nothing is left -/
theorem base_step (k f n : Nat) (s : List Nat) (h : 0 < n ∨ s = []) : baseGo k (f + 1) n s = baseGo k f (n / k) (n % k :: s) := by
  rw [baseGo, if_pos h]
theorem base_stop (k f n : Nat) (s : List Nat) (h : ¬ (0 < n ∨ s = [])) : baseGo k f n s = s := by
  cases f with
  | zero => rfl
  | succ f => rw [baseGo, if_neg h]
theorem baseD_ne (k n : Nat) : baseD k n ≠ [] := by
  unfold baseD
  have go : ∀ (f n : Nat) (s : List Nat), s ≠ [] → baseGo k f n s ≠ [] := by
    intro f
    induction f with
    | zero => intro n s h; exact h
    | succ f ih =>
      intro n s h
      unfold baseGo
      split
      · exact ih _ _ (by simp)
      · exact h
  rw [baseGo, if_pos (.inr rfl)]
  exact go _ _ _ (by simp)
theorem base_read (k n : Nat) (hk : 2 ≤ k) : readD k (baseD k n) = n := by
  unfold baseD
  rw [base_go k hk (n + 1) n [] (Nat.lt_succ_self n)]
  simp [readD]
end Go.Proofs.YtnlaecjniellpaaGreatDoor.Num

/- Texts of digits and of Roman signs, in capital and in small signs. Plain: of no program. -/
namespace Go.Proofs.YtnlaecjniellpaaGreatDoor.Num

/-- a capital letter made small -/
def lowC (c : UInt8) : UInt8 := if 65 ≤ c.toNat ∧ c.toNat ≤ 90 then c + 32 else c
theorem lowC_nat (c : UInt8) : (lowC c).toNat = if 65 ≤ c.toNat ∧ c.toNat ≤ 90 then c.toNat + 32 else c.toNat := by
  unfold lowC
  split
  · rename_i h; rw [UInt8.toNat_add]; simp; omega
  · rfl
/-- a text made small -/
def lowB (s : ByteArray) : ByteArray := ⟨(s.data.toList.map lowC).toArray⟩
theorem lowB_of (l : List UInt8) : lowB ⟨l.toArray⟩ = ⟨(l.map lowC).toArray⟩ := by simp [lowB]
/-- a text of visible signs that is not too long -/
def Plain (s : ByteArray) : Prop := s.size ≤ 32767 ∧ ∀ i (h : i < s.size), 32 ≤ (s[i]'h).toNat ∧ (s[i]'h).toNat ≤ 126
theorem plain_of (l : List UInt8) (h : l.length ≤ 32767) (h2 : ∀ c ∈ l, 32 ≤ c.toNat ∧ c.toNat ≤ 126) : Plain ⟨l.toArray⟩ := by
  refine ⟨by simpa [ByteArray.size] using h, fun i hi => h2 _ ?_⟩
  have hi' : i < l.length := by simpa [ByteArray.size] using hi
  have : (⟨l.toArray⟩ : ByteArray)[i]'hi = l[i] := rfl
  rw [this]
  exact List.getElem_mem hi'
/-- the capital and the small sign of a digit -/
def upD (d : Nat) : UInt8 := UInt8.ofNat (if d < 10 then 48 + d else 55 + d)
def loD (d : Nat) : UInt8 := UInt8.ofNat (if d < 10 then 48 + d else 87 + d)
theorem up_lo : ∀ d : Fin 36, lowC (upD d.1) = loD d.1 ∧ lowC (loD d.1) = loD d.1 ∧ 32 ≤ (upD d.1).toNat ∧ (upD d.1).toNat ≤ 126 ∧ 32 ≤ (loD d.1).toNat ∧ (loD d.1).toNat ≤ 126 := by decide
/-- the digits with zeros ahead -/
def digL (k n m : Nat) : List Nat := List.replicate (m - (baseD k n).length) 0 ++ baseD k n
theorem digL_read (k n m : Nat) (hk : 2 ≤ k) : readD k (digL k n m) = n := by unfold digL; rw [readD_zeros, base_read k n hk]
theorem digL_lt (k n m : Nat) (hk : 2 ≤ k) : ∀ d ∈ digL k n m, d < k := by
  intro d hd
  rcases List.mem_append.1 hd with h | h
  · rw [(List.mem_replicate.1 h).2]; omega
  · exact base_lt k hk _ _ [] (by simp) d h
theorem digL_min (k n m : Nat) : m ≤ (digL k n m).length := by simp [digL]; omega
theorem baseGo_len (k : Nat) (hk : 2 ≤ k) : ∀ (f n t : Nat) (s : List Nat), n < 2 ^ t → (s ≠ [] ∨ n ≠ 0) → (baseGo k f n s).length ≤ s.length + t
  | 0, _, _, s, _, _ => by unfold baseGo; omega
  | f + 1, n, t, s, h, hs => by
    unfold baseGo
    split
    · rename_i hc
      by_cases h0 : n = 0
      · subst h0
        rcases hc with hc | hc
        · omega
        · rcases hs with hs | hs
          · exact absurd hc hs
          · exact absurd rfl hs
      · cases t with
        | zero => simp at h; omega
        | succ t =>
          have : n / k < 2 ^ t := by
            rw [Nat.div_lt_iff_lt_mul (by omega)]
            calc n < 2 ^ (t + 1) := h
              _ = 2 ^ t * 2 := by rw [Nat.pow_succ]
              _ ≤ 2 ^ t * k := Nat.mul_le_mul_left _ hk
          have := baseGo_len k hk f (n / k) t (n % k :: s) this (.inl (by simp))
          simp at this
          omega
    · omega
theorem baseGo_ge (k : Nat) : ∀ (f n : Nat) (s : List Nat), s.length ≤ (baseGo k f n s).length
  | 0, _, _ => Nat.le_refl _
  | f + 1, n, s => by
    unfold baseGo
    split
    · exact Nat.le_trans (Nat.le_succ _) (baseGo_ge k f _ (n % k :: s))
    · exact Nat.le_refl _
theorem baseD_len (k n : Nat) (hk : 2 ≤ k) (hn : n < 1000000) : (baseD k n).length ≤ 20 := by
  unfold baseD
  by_cases h0 : n = 0
  · subst h0
    rw [baseGo, if_pos (.inr rfl)]
    have := baseGo_len k hk 0 (0 / k) 0 [0 % k] (by simp) (.inl (by simp))
    simp at this ⊢
    omega
  · have := baseGo_len k hk (n + 1) n 20 [] (by omega) (.inr h0)
    simpa using this
theorem digL_len (k n m : Nat) (hk : 2 ≤ k) (hn : n < 1000000) (hm : m < 30) : (digL k n m).length ≤ 30 ∧ 1 ≤ (digL k n m).length := by
  have h1 := baseD_len k n hk hn
  have h2 : 0 < (baseD k n).length := List.length_pos_iff.2 (baseD_ne k n)
  simp [digL]
  omega
/-- the text of BASE and its small one -/
def baseU (k n m : Nat) : ByteArray := ⟨((digL k n m).map upD).toArray⟩
def baseL (k n m : Nat) : ByteArray := ⟨((digL k n m).map loD).toArray⟩
theorem low_baseU (k n m : Nat) (hk : 2 ≤ k) (h36 : k ≤ 36) : lowB (baseU k n m) = baseL k n m := by
  unfold baseU baseL
  rw [lowB_of, List.map_map]
  congr 2
  apply List.map_congr_left
  intro d hd
  exact (up_lo ⟨d, by have := digL_lt k n m hk d hd; omega⟩).1
theorem low_baseL (k n m : Nat) (hk : 2 ≤ k) (h36 : k ≤ 36) : lowB (baseL k n m) = baseL k n m := by
  unfold baseL
  rw [lowB_of, List.map_map]
  congr 2
  apply List.map_congr_left
  intro d hd
  exact (up_lo ⟨d, by have := digL_lt k n m hk d hd; omega⟩).2.1
theorem plain_baseU (k n m : Nat) (hk : 2 ≤ k) (h36 : k ≤ 36) (hn : n < 1000000) (hm : m < 30) : Plain (baseU k n m) := by
  refine plain_of _ (by have := digL_len k n m hk hn hm; rw [List.length_map]; omega) ?_
  intro c hc
  obtain ⟨d, hd, rfl⟩ := List.mem_map.1 hc
  have := up_lo ⟨d, by have := digL_lt k n m hk d hd; omega⟩
  exact ⟨this.2.2.1, this.2.2.2.1⟩
theorem plain_baseL (k n m : Nat) (hk : 2 ≤ k) (h36 : k ≤ 36) (hn : n < 1000000) (hm : m < 30) : Plain (baseL k n m) := by
  refine plain_of _ (by have := digL_len k n m hk hn hm; rw [List.length_map]; omega) ?_
  intro c hc
  obtain ⟨d, hd, rfl⟩ := List.mem_map.1 hc
  have := up_lo ⟨d, by have := digL_lt k n m hk d hd; omega⟩
  exact ⟨this.2.2.2.2.1, this.2.2.2.2.2⟩
/-- what is read is at least what is read of its beginning -/
theorem readD_take (k : Nat) (hk : 1 ≤ k) (s : List Nat) (j : Nat) : readD k (s.take j) ≤ readD k s := by
  conv => rhs; rw [← List.take_append_drop j s]
  unfold readD
  rw [List.foldl_append]
  have := readD_go k (s.drop j) ((s.take j).foldl (fun a d => a * k + d) 0)
  rw [this]
  exact Nat.le_trans (Nat.le_mul_of_pos_right _ (Nat.pow_pos hk)) (Nat.le_add_right _ _)
theorem readD_snoc (k : Nat) (s : List Nat) (j : Nat) (h : j < s.length) : readD k (s.take (j + 1)) = readD k (s.take j) * k + s[j] := by
  unfold readD
  rw [List.take_succ_eq_append_getElem h, List.foldl_append]
  rfl

/-- the values and their capital signs -/
def romTU : List (Nat × List UInt8) := [(1000, [77]), (900, [67, 77]), (500, [68]), (400, [67, 68]), (100, [67]), (90, [88, 67]), (50, [76]), (40, [88, 76]), (10, [88]), (9, [73, 88]), (5, [86]), (4, [73, 86]), (1, [73])]
def romanU (n : Nat) : List UInt8 := romL romTU n
theorem times_low (s : List UInt8) (n : Nat) : (timesL s n).map lowC = timesL (s.map lowC) n := by
  induction n with
  | zero => rfl
  | succ n ih => rw [timesL, List.map_append, ih]; rfl
theorem romL_low : ∀ (T : List (Nat × List UInt8)) (n : Nat), (romL T n).map lowC = romL (T.map fun p => (p.1, p.2.map lowC)) n
  | [], _ => rfl
  | (v, s) :: t, n => by rw [romL, List.map_append, times_low, romL_low t]; rfl
theorem roman_low (n : Nat) : (romanU n).map lowC = romanL n := by
  unfold romanU romanL
  rw [romL_low]
  rfl
set_option maxRecDepth 100000 in
theorem roman_plain : ∀ n : Fin 4000, (romanU n.1).length ≤ 15 ∧ (romanU n.1).all (fun c => decide (32 ≤ c.toNat) && decide (c.toNat ≤ 126)) = true := by decide +kernel
/-- the text of ROMAN -/
def romB (n : Nat) : ByteArray := ⟨(romanU n).toArray⟩
theorem plain_rom (n : Nat) (hn : n < 4000) : Plain (romB n) := by
  have h := roman_plain ⟨n, hn⟩
  refine plain_of _ (by have := h.1; simp only at this; omega) ?_
  intro c hc
  have := List.all_eq_true.1 h.2 c hc
  simpa using this
theorem low_rom (n : Nat) : lowB (romB n) = ⟨(romanL n).toArray⟩ := by unfold romB; rw [lowB_of, roman_low]
theorem low_rom_inj {m n : Nat} (hm : m < 4000) (hn : n < 4000) (h : lowB (romB m) = lowB (romB n)) : m = n := by
  rw [low_rom, low_rom] at h
  have := congrArg (fun x : ByteArray => x.data.toList) h
  exact roman_inj hm hn (by simpa using this)
/-- ROMAN's loop: what is written of the first i signs, and what is left -/
def romLeft : List (Nat × List UInt8) → Nat → Nat
  | [], n => n
  | (v, _) :: t, n => romLeft t (n % v)
def romTo (i n : Nat) : List UInt8 := romL (romTU.take i) n
theorem romL_append : ∀ (s t : List (Nat × List UInt8)) (n : Nat), romL (s ++ t) n = romL s n ++ romL t (romLeft s n)
  | [], _, _ => rfl
  | (_, _) :: s, t, _ => by rw [List.cons_append, romL, romL, romL_append s t, List.append_assoc]; rfl
theorem romLeft_append : ∀ (s t : List (Nat × List UInt8)) (n : Nat), romLeft (s ++ t) n = romLeft t (romLeft s n)
  | [], _, _ => rfl
  | (_, _) :: s, t, _ => by rw [List.cons_append, romLeft, romLeft_append s t]; rfl
theorem romLeft_le : ∀ (t : List (Nat × List UInt8)) (n : Nat), romLeft t n ≤ n
  | [], _ => Nat.le_refl _
  | (v, _) :: t, n => Nat.le_trans (romLeft_le t _) (Nat.mod_le _ _)
theorem romTo_step (i n : Nat) (hi : i < 13) : romTo (i + 1) n = romTo i n ++ timesL (romTU[i]'hi).2 (romLeft (romTU.take i) n / (romTU[i]'hi).1) := by
  have hi' : i < romTU.length := hi
  unfold romTo
  rw [List.take_succ_eq_append_getElem hi', romL_append]
  show _ ++ (timesL _ _ ++ []) = _
  rw [List.append_nil]
  rfl
theorem romLeft_step (i n : Nat) (hi : i < 13) : romLeft (romTU.take (i + 1)) n = romLeft (romTU.take i) n % (romTU[i]'hi).1 := by
  have hi' : i < romTU.length := hi
  rw [List.take_succ_eq_append_getElem hi', romLeft_append]
  rfl
theorem romTo_end (n : Nat) : romTo 13 n = romanU n := rfl
end Go.Proofs.YtnlaecjniellpaaGreatDoor.Num

/- Texts of visible ASCII signs, as values: Check, Text, ToText, Args.Text; Lower. Conditions: the tables lie as they are laid. -/
namespace Go.Proofs.YtnlaecjniellpaaGreatDoor.Num
open Go.RowKit Go.Lib

set_option maxHeartbeats 1000000 in
set_option maxRecDepth 100000 in
theorem decode_T (s : ByteArray) (x0 : Nat) (w : World) (hn : 1 ≤ s.size) (hs : s.size ≤ 4000000000) (h0 : (s[0]'(by omega)).toNat = x0) (u0 : x0 < 128) :
    Calls Tryz.prog 121 #[.string s] w fun e w' => e = .returned (.tuple #[.int .i32 x0, .int .i64 1]) ∧ w' = w := by
  have hne : s.toList.isEmpty = false := by
    rw [Lib.toList_data]
    cases hd : s.data.toList with
    | nil =>
      have hz : s.data.toList.length = s.size := rfl
      rw [hd] at hz
      simp only [List.length_nil] at hz
      omega
    | cons a t => rfl
  go_enter Tryz.func121, Tryz.ntmps121
  go_wp2
  go_ret2
  exact ⟨rfl, rfl⟩
set_option maxHeartbeats 1000000 in
set_option maxRecDepth 100000 in
theorem char_T (c : Nat) (w : World) (h1 : 32 ≤ c) (h2 : c ≤ 126) : Calls Tryz.prog 123 #[.int .i64 c] w fun e w' => e = .returned (.bool true) ∧ w' = w := by
  have e9 : ((c : Int) == 9) = false := by rw [beq_eq_false_iff_ne]; omega
  have e10 : ((c : Int) == 10) = false := by rw [beq_eq_false_iff_ne]; omega
  go_enter Tryz.func123, Tryz.ntmps123
  go_wp2
  go_ret
  exact ⟨rfl, rfl⟩
theorem extract_next (f : ByteArray) (i : Nat) : (f.extract i f.size).extract 1 (f.size - i) = f.extract (i + 1) f.size := by
  apply ByteArray.ext
  apply Array.ext'
  have e : f.size - i = (f.extract i f.size).size := by rw [ByteArray.size_extract, Nat.min_self]
  rw [e, Lib.extract_to_end, Lib.extract_to_end, Lib.extract_to_end, List.drop_drop]
theorem extract_head (f : ByteArray) (i : Nat) (h : i < f.size) (h' : 0 < (f.extract i f.size).size) : (f.extract i f.size)[0]'h' = f[i]'h := by
  simp [ByteArray.getElem_extract]
set_option maxHeartbeats 4000000 in
set_option maxRecDepth 100000 in
theorem text_plain (s : ByteArray) (hs : Plain s) (w : World) : Calls Tryz.prog 200 #[.string s] w fun e w' => e = .returned (.int .i64 0) ∧ w' = w := by
  obtain ⟨hsz, hch⟩ := hs
  have HC := Lib.hid hch
  clear hch
  have hx0 : s.extract 0 s.size = s := ByteArray.extract_zero_size
  go_enter Tryz.func200, Tryz.ntmps200
  go_wp2
  go_loopg [0] s.size (fun g v0 wx => ∃ i : Nat, s.size ≤ i + g ∧ i ≤ s.size ∧ v0 = .string (s.extract i s.size) ∧ wx = w)
  case atStart => exact ⟨0, by omega, by omega, by rw [hx0], rfl⟩
  case round =>
    obtain ⟨i, hg, hi, rfl, rfl⟩ := hrel
    clear hx0
    have hz : (s.extract i s.size).size = s.size - i := by rw [ByteArray.size_extract, Nat.min_self]
    by_cases hlt : i < s.size
    · have hne : (s.extract i s.size).toList.isEmpty = false := by
        rw [Lib.toList_data, Lib.extract_to_end]
        cases hd : s.data.toList.drop i with
        | nil => have := congrArg List.length hd; simp at this; have hz2 : s.data.size = s.size := rfl; omega
        | cons a t => rfl
      obtain ⟨x, hx⟩ : ∃ x, (s[i]'hlt).toNat = x := ⟨_, rfl⟩
      have hb := HC.out i hlt
      rw [hx] at hb
      obtain ⟨hb1, hb2⟩ := hb
      have TD := Lib.hid (fun W => decode_T (s.extract i s.size) x W (by omega) (by omega) (by rw [extract_head s i hlt]; exact hx) (by omega))
      have TC := Lib.hid (fun W => char_T x W hb1 hb2)
      have HN := Lib.hid (extract_next s i)
      have hsl : 1 ≤ (s.extract i s.size).size := by omega
      have e1 : ((x : Int) == 65533) = false := by rw [beq_eq_false_iff_ne]; omega
      clear hx
      have HZ := Lib.hid hz
      clear hz
      go_wp2_with fail
      refine (TD.out _).mono ?_
      rintro e w1 ⟨rfl, h1⟩
      subst h1
      go_wp2_with fail
      refine (TC.out _).mono ?_
      rintro e w2 ⟨rfl, h2⟩
      subst h2
      go_wp2
      go_roundg (gk - 1)
      case measure => omega
      case rel => exact ⟨i + 1, by omega, by omega, by first | rw [HN.out] | (rw [HZ.out, HN.out]), rfl⟩
    · have hne : (s.extract i s.size).toList.isEmpty = true := by
        rw [Lib.toList_data, Lib.extract_to_end, List.drop_eq_nil_of_le (by have hz2 : s.data.size = s.size := rfl; simp; omega)]; rfl
      go_wp2
      go_ret
      exact ⟨rfl, rfl⟩
/-- a text as a value -/
def tVal (s : ByteArray) : Val := ⟨2, { data := #[] }, { data := #[] }, s, false, 0, 0, 0, none, 0, 0⟩
/-- its nine cells -/
def TextCells (w : World) (ab ao : Nat) (s : ByteArray) : Prop := CellsAt w ab ao (.int .i64 2) (.string { data := #[] }) (.string { data := #[] }) (.string s) (.bool false) (.int .i64 0) (.int .i64 0) (.int .i64 0) (.slice none 0 0)
set_option maxHeartbeats 4000000 in
set_option maxRecDepth 100000 in
theorem zeros_T (s : ByteArray) (w : World) : Calls Tryz.prog 198 #[.agg #[.int .i64 2, .string { data := #[] }, .string { data := #[] }, .string s, .bool false, .int .i64 0, .int .i64 0, .int .i64 0, .slice none 0 0]] w fun e w' => e = .returned (.int .i64 0) ∧ Below w.heap.size w w' := by
  go_enter Tryz.func198, Tryz.ntmps198
  go_wp2
  go_ret
  exact ⟨rfl, (Below.refl _ _).alloc (Nat.le_refl _) _⟩
set_option maxHeartbeats 4000000 in
set_option maxRecDepth 100000 in
theorem check_T (s : ByteArray) (hs : Plain s) (w : World) : Calls Tryz.prog 97 #[.agg #[.int .i64 2, .string { data := #[] }, .string { data := #[] }, .string s, .bool false, .int .i64 0, .int .i64 0, .int .i64 0, .slice none 0 0]] w fun e w' => e = .returned (.int .i64 0) ∧ Below w.heap.size w w' := by
  have TX := Lib.hid (fun W => text_plain s hs W)
  clear hs
  have HX := Lib.hid (heap_alloc_new w (.cells #[.int .i64 2, .string { data := #[] }, .string { data := #[] }, .string s, .bool false, .int .i64 0, .int .i64 0, .int .i64 0, .slice none 0 0] 27))
  have HL := Lib.hid (show Below w.heap.size w (w.alloc (.cells #[.int .i64 2, .string { data := #[] }, .string { data := #[] }, .string s, .bool false, .int .i64 0, .int .i64 0, .int .i64 0, .slice none 0 0] 27)) from (Below.refl _ _).alloc (Nat.le_refl _) _)
  go_enter Tryz.func97, Tryz.ntmps97
  go_wp2_with fail
  refine (zeros_T s _).mono ?_
  rintro e W1 ⟨rfl, hb⟩
  replace HX := Lib.hid (keep_block HX.out hb)
  replace HL := Lib.hid (HL.out.trans (hb.mono HL.out.size))
  clear hb
  obtain ⟨⟨x0, x1, x2, x3, x4, x5, x6, x7, x8⟩, _⟩ := nine_at HX.out
  go_wp2_with fail
  refine (TX.out _).mono ?_
  rintro e W2 ⟨rfl, rfl⟩
  go_wp2
  go_ret
  exact ⟨rfl, HL.out⟩
theorem valid_T (s : ByteArray) (hs : Plain s) (w : World) (hE : Env w) : Calls Tryz.prog 99 #[.agg #[.int .i64 2, .string { data := #[] }, .string { data := #[] }, .string s, .bool false, .int .i64 0, .int .i64 0, .int .i64 0, .slice none 0 0]] w fun e w' => e = .returned (.agg #[.int .i64 2, .string { data := #[] }, .string { data := #[] }, .string s, .bool false, .int .i64 0, .int .i64 0, .int .i64 0, .slice none 0 0]) ∧ Below w.heap.size w w' :=
  valid_of 2 { data := #[] } { data := #[] } s false 0 0 0 none 0 0 w (fun W _ => check_T s hs W) hE
theorem scalar_T (s : ByteArray) (hs : Plain s) (w : World) (hE : Env w) : Calls Tryz.prog 203 #[.agg #[.int .i64 2, .string { data := #[] }, .string { data := #[] }, .string s, .bool false, .int .i64 0, .int .i64 0, .int .i64 0, .slice none 0 0]] w fun e w' => e = .returned (.agg #[.int .i64 2, .string { data := #[] }, .string { data := #[] }, .string s, .bool false, .int .i64 0, .int .i64 0, .int .i64 0, .slice none 0 0]) ∧ Below w.heap.size w w' :=
  scalar_of 2 { data := #[] } { data := #[] } s false 0 0 0 none 0 0 w rfl (fun W _ => check_T s hs W) hE
set_option maxHeartbeats 4000000 in
set_option maxRecDepth 100000 in
theorem textV_T (s : ByteArray) (hs : Plain s) (w : World) (hE : Env w) : Calls Tryz.prog 52 #[.string s] w fun e w' => e = .returned (.agg #[.int .i64 2, .string { data := #[] }, .string { data := #[] }, .string s, .bool false, .int .i64 0, .int .i64 0, .int .i64 0, .slice none 0 0]) ∧ Below w.heap.size w w' := by
  have TV := Lib.hid (fun W g => valid_T s hs W g)
  have hb : Below w.heap.size w (w.alloc (.cells #[.int .i64 0, .string { data := #[] }, .string { data := #[] }, .string { data := #[] }, .bool false, .int .i64 0, .int .i64 0, .int .i64 0, .slice none 0 0] 27)) := (Below.refl _ _).alloc (Nat.le_refl _) _
  have HR := Lib.hid (heap_alloc_new w (.cells #[.int .i64 0, .string { data := #[] }, .string { data := #[] }, .string { data := #[] }, .bool false, .int .i64 0, .int .i64 0, .int .i64 0, .slice none 0 0] 27))
  have HL := Lib.hid hb
  have HE := Lib.hid (hE.below hb)
  clear hb hE hs
  go_enter Tryz.func52, Tryz.ntmps52
  go_wp2_with fail
  refine (TV.out _ HE.out).mono ?_
  rintro e W1 ⟨rfl, hb⟩
  replace HR := Lib.hid (keep_block HR.out hb)
  replace HL := Lib.hid (HL.out.trans (hb.mono HL.out.size))
  clear hb
  obtain ⟨⟨r0, r1, r2, r3, r4, r5, r6, r7, r8⟩, g0, g1, g2, g3, g4, g5, g6, g7, g8⟩ := nine_at HR.out
  obtain ⟨nb, e0, e1, e2, e3, e4, e5, e6, e7, e8⟩ := nine_end (x0 := (.int .i64 2)) (x1 := (.string { data := #[] })) (x2 := (.string { data := #[] })) (x3 := (.string s)) (x4 := (.bool false)) (x5 := (.int .i64 0)) (x6 := (.int .i64 0)) (x7 := (.int .i64 0)) (x8 := (.slice none 0 0)) HR.out HL.out (by omega)
  go_wp2
  refine bodyPost_ret (v := .agg #[.int .i64 2, .string { data := #[] }, .string { data := #[] }, .string s, .bool false, .int .i64 0, .int .i64 0, .int .i64 0, .slice none 0 0]) (by simp [results, Tryz.results52, go_sem, e0, e1, e2, e3, e4, e5, e6, e7, e8]) rfl ⟨rfl, nb⟩
set_option maxHeartbeats 4000000 in
set_option maxRecDepth 100000 in
theorem shown_T (s : ByteArray) (w : World) : Calls Tryz.prog 204 #[.agg #[.int .i64 2, .string { data := #[] }, .string { data := #[] }, .string s, .bool false, .int .i64 0, .int .i64 0, .int .i64 0, .slice none 0 0]] w fun e w' => e = .returned (.string s) ∧ Below w.heap.size w w' := by
  have HL := Lib.hid (show Below w.heap.size w (w.alloc (.cells #[.int .i64 2, .string { data := #[] }, .string { data := #[] }, .string s, .bool false, .int .i64 0, .int .i64 0, .int .i64 0, .slice none 0 0] 27)) from (Below.refl _ _).alloc (Nat.le_refl _) _)
  go_enter Tryz.func204, Tryz.ntmps204
  go_wp2
  go_ret
  exact ⟨rfl, HL.out⟩
set_option maxHeartbeats 4000000 in
set_option maxRecDepth 100000 in
theorem toText_T (s : ByteArray) (hs : Plain s) (w : World) (hE : Env w) : Calls Tryz.prog 102 #[.agg #[.int .i64 2, .string { data := #[] }, .string { data := #[] }, .string s, .bool false, .int .i64 0, .int .i64 0, .int .i64 0, .slice none 0 0]] w fun e w' => e = .returned (.tuple #[.string s, .int .i64 0]) ∧ Below w.heap.size w w' := by
  have TC := Lib.hid (fun W h => scalar_T s hs W h)
  have hb : Below w.heap.size w (w.alloc (.cells #[.int .i64 2, .string { data := #[] }, .string { data := #[] }, .string s, .bool false, .int .i64 0, .int .i64 0, .int .i64 0, .slice none 0 0] 27)) := (Below.refl _ _).alloc (Nat.le_refl _) _
  have HX := Lib.hid (heap_alloc_new w (.cells #[.int .i64 2, .string { data := #[] }, .string { data := #[] }, .string s, .bool false, .int .i64 0, .int .i64 0, .int .i64 0, .slice none 0 0] 27))
  have HL := Lib.hid hb
  have HE := Lib.hid (hE.below hb)
  clear hb hE hs
  go_enter Tryz.func102, Tryz.ntmps102
  go_wp2_with fail
  refine (TC.out _ HE.out).mono ?_
  rintro e W1 ⟨rfl, hb⟩
  replace HX := Lib.hid (keep_block HX.out hb)
  replace HL := Lib.hid (HL.out.trans (hb.mono HL.out.size))
  clear hb
  obtain ⟨⟨x0, x1, x2, x3, x4, x5, x6, x7, x8⟩, f0, f1, f2, f3, f4, f5, f6, f7, f8⟩ := nine_at HX.out
  obtain ⟨nb, e0, e1, e2, e3, e4, e5, e6, e7, e8⟩ := nine_end (x0 := (.int .i64 2)) (x1 := (.string { data := #[] })) (x2 := (.string { data := #[] })) (x3 := (.string s)) (x4 := (.bool false)) (x5 := (.int .i64 0)) (x6 := (.int .i64 0)) (x7 := (.int .i64 0)) (x8 := (.slice none 0 0)) HX.out HL.out (Nat.le_refl _)
  have NB := Lib.hid nb
  clear nb
  go_wp2_with fail
  refine (shown_T s _).mono ?_
  rintro e W2 ⟨rfl, hb⟩
  go_wp2
  go_ret2
  exact ⟨rfl, NB.out.trans (hb.mono NB.out.size)⟩
set_option maxHeartbeats 4000000 in
set_option maxRecDepth 100000 in
theorem argText_T (b ab ao L C n : Nat) (s : ByteArray) (hs : Plain s) (w : World) (h : ArgsAt w b (some ⟨ab, ao, none⟩) L C n) (hn : n < L) (hL : L ≤ 1000000000) (hne : ab ≠ b) (hc : TextCells w ab (ao + n * 9) s) (hE : Env w) (hP : Past b) :
    Calls Tryz.prog 23 #[.pointer (some ⟨b, 0, none⟩)] w fun e w' => e = .returned (.string s) ∧ ArgRet w b (some ⟨ab, ao, none⟩) L C (n + 1) w' := by
  have TV := Lib.hid (fun W g g' => value_any b ab ao L C n 2 { data := #[] } { data := #[] } s false 0 0 0 none 0 0 W g hn hL hne g')
  have TN := Lib.hid (fun W g => toText_T s hs W g)
  have HA := Lib.hid h
  have HC := Lib.hid hc
  have HE := Lib.hid hE
  have HP := Lib.hid hP
  clear h hc hE hn hL hne hP hs
  go_enter Tryz.func23, Tryz.ntmps23
  go_wp2_with fail
  refine (TV.out _ HA.out (by exact HC.out)).mono ?_
  rintro e W1 ⟨rfl, ha, hg⟩
  replace HA := Lib.hid ha
  replace HE := Lib.hid (HE.out.kept hg HP.out)
  have HG := Lib.hid hg
  clear ha hg
  go_wp2_with fail
  refine (TN.out _ HE.out).mono ?_
  rintro e W2 ⟨rfl, hb⟩
  replace HA := Lib.hid (keep_block HA.out hb)
  replace HG := Lib.hid (kept_trans HG.out (kept_below hb))
  clear hb
  go_wp2_with fail
  refine (stop_zero _).mono ?_
  rintro e w3 ⟨rfl, rfl⟩
  go_wp2
  go_ret
  exact ⟨rfl, HA.out, HG.out⟩
/-- the cells of a row of bytes -/
def BytesAt (w : World) (B : Nat) (l : List UInt8) : Prop := ∀ i (h : i < l.length), w.cell? ⟨B, i, none⟩ = some (.int .u8 ((l[i]'h).toNat : Int)) ∧ w.frozen? ⟨B, i, none⟩ = false
theorem bytes_at (s : ByteArray) (w : World) : ∃ (C : Nat) (W1 : World), (convert 9 87 (.string s)).run Tryz.prog w = .ok (.slice (some ⟨w.heap.size, 0, none⟩) s.size C) W1 ∧ BytesAt W1 w.heap.size s.data.toList ∧ Below w.heap.size w W1 ∧ W1.heap.size = w.heap.size + 1 := by
  have h := run_bytes_of_string (P := Tryz.prog) w 9 87 5 s Tryz.underlying9 Tryz.underlying87 Tryz.underlying5
  obtain ⟨C, hC⟩ : ∃ C, grownCap w s.size 0 5 = C := ⟨_, rfl⟩
  rw [hC] at h
  have hr : ∀ i (hi : i < s.data.toList.length), (bytesRow s C)[i]? = some (.int .u8 ((s.data.toList[i]'hi).toNat : Int)) := by
    intro i hi
    have hi' : i < s.data.size := by simpa using hi
    unfold bytesRow
    rw [Array.getElem?_append_left (by simpa using hi'), Array.getElem?_map, Array.getElem?_eq_getElem hi']
    simp
  have hz : s.data.toList.length ≤ (bytesRow s C).size := by simp [bytesRow]
  obtain ⟨R, hR⟩ : ∃ R, bytesRow s C = R := ⟨_, rfl⟩
  rw [hR] at h hr hz
  have hn : (w.drew.alloc (.cells R 5 (R.size, R.size + 1))).heap[w.heap.size]? = some (.cells R 5 (R.size, R.size + 1)) := heap_alloc_new w.drew _
  refine ⟨C, _, h, fun i hi => ⟨(Lib.cell_of_heap hn i).trans (hr i hi), ?_⟩, ?_, ?_⟩
  · simp only [World.frozen?, hn]
    rw [Bool.and_eq_false_iff]
    left
    exact decide_eq_false (by omega)
  · exact (Below.drew (Below.refl w.heap.size w)).alloc (Nat.le_refl _) _
  · simp [World.alloc]
/-- the first k letters made small -/
def lowTo (l : List UInt8) (k : Nat) : List UInt8 := (l.take k).map lowC ++ l.drop k
theorem lowTo_len (l : List UInt8) (k : Nat) : (lowTo l k).length = l.length := by simp [lowTo]; omega
theorem lowTo_zero (l : List UInt8) : lowTo l 0 = l := rfl
theorem lowTo_end (l : List UInt8) : lowTo l l.length = l.map lowC := by simp [lowTo]
theorem lowTo_at (l : List UInt8) (k : Nat) (h : k < l.length) (h' : k < (lowTo l k).length) : (lowTo l k)[k]'h' = l[k] := by
  have h2 : (lowTo l k)[k]? = some l[k] := by
    unfold lowTo
    rw [List.getElem?_append_right (by simp [Nat.min_le_left])]
    simp [Nat.min_eq_left (Nat.le_of_lt h)]
  rw [List.getElem?_eq_getElem h'] at h2
  exact Option.some.inj h2
theorem lowTo_step (l : List UInt8) (k : Nat) (h : k < l.length) : lowTo l (k + 1) = (lowTo l k).set k (lowC l[k]) := by
  unfold lowTo
  rw [List.take_succ_eq_append_getElem h, List.map_append, List.append_assoc, List.set_append_right _ _ (by simp [Nat.min_le_left])]
  congr 1
  have e : k - ((l.take k).map lowC).length = 0 := by simp; omega
  rw [e, List.drop_eq_getElem_cons h]
  rfl
theorem lowTo_same (l : List UInt8) (k : Nat) (h : k < l.length) (hc : lowC l[k] = l[k]) : lowTo l (k + 1) = lowTo l k := by
  have h2 := lowTo_at l k h (by rw [lowTo_len]; exact h)
  rw [lowTo_step l k h, hc]
  conv => lhs; rw [← h2]
  exact List.set_getElem_self _
theorem BytesAt.set {w : World} {B : Nat} {l : List UInt8} (h : BytesAt w B l) (k : Nat) (hk : k < l.length) (c : UInt8) : BytesAt (w.setCell ⟨B, k, none⟩ (.int .u8 (c.toNat : Int))) B (l.set k c) := by
  intro i hi
  have hi' : i < l.length := by simpa using hi
  refine ⟨?_, by rw [World.frozen?_setCell]; exact (h i hi').2⟩
  by_cases he : i = k
  · subst he
    rw [World.cell?_setCell_same' _ _ _ (by rw [(h i hi').1]; rfl)]
    simp
  · rw [World.cell?_setCell_other _ ⟨B, k, none⟩ ⟨B, i, none⟩ _ (fun e => he (Addr.mk.inj e).2.1.symm), (h i hi').1, List.getElem_set_ne (fun e => he e.symm)]
theorem str_bytes (l : List UInt8) : strOfNums (l.map fun c => (c.toNat : Int)) = ⟨l.toArray⟩ := by
  unfold strOfNums
  congr 2
  rw [List.map_map]
  conv => rhs; rw [← List.map_id l]
  apply List.map_congr_left
  intro c _
  simp
theorem string_bytes (w : World) (B C n : Nat) (l : List UInt8) (hn : l.length = n) (h : BytesAt w B l) : (convert 87 9 (.slice (some ⟨B, 0, none⟩) n C)).run Tryz.prog w = .ok (.string ⟨l.toArray⟩) w := by
  have h2 := run_convert_bytes_arg (P := Tryz.prog) w 87 5 Tryz.underlying87 Tryz.underlying5 B 0 n C (l.map fun c => (c.toNat : Int)) (by simpa using hn) (fun i hi => by
    have hi' : i < l.length := by omega
    rw [Nat.zero_add, (h i hi').1]
    simp [hi']) 9 Tryz.underlying9
  rw [h2, str_bytes]
set_option maxHeartbeats 4000000 in
set_option maxRecDepth 100000 in
theorem lower_any (s : ByteArray) (hs : s.size ≤ 1000000000) (w : World) : Calls Tryz.prog 25 #[.string s] w fun e w' => e = .returned (.string (lowB s)) ∧ Below w.heap.size w w' := by
  obtain ⟨C, W1, hcv, hbt, hb, hsz⟩ := bytes_at s w
  obtain ⟨B, hB⟩ : ∃ B, w.heap.size = B := ⟨_, rfl⟩
  rw [hB] at hcv hbt hsz hb ⊢
  obtain ⟨n, hn⟩ : ∃ n, s.size = n := ⟨_, rfl⟩
  obtain ⟨l, hl⟩ : ∃ l, s.data.toList = l := ⟨_, rfl⟩
  have hln : l.length = n := by rw [← hl, ← hn]; rfl
  have hlow : lowB s = ⟨(l.map lowC).toArray⟩ := by rw [← hl]; rfl
  rw [hl] at hbt
  rw [hn] at hcv hs
  rw [hlow]
  have HB := Lib.hid hb
  have HT := Lib.hid hbt
  have HN := Lib.hid hln
  clear hb hbt hln hlow hl hn hB hsz
  go_enter Tryz.func25, Tryz.ntmps25
  go_wp2
  go_loopg [10] n (fun g v10 wx => ∃ k : Nat, n ≤ k + g ∧ k ≤ n ∧ v10 = .int .i64 (k : Int) ∧ BytesAt wx B (lowTo l k) ∧ Below B w wx)
  case atStart => exact ⟨0, by omega, by omega, rfl, HT.out, HB.out⟩
  case round =>
    obtain ⟨k, hg, hk, rfl, ht, hb⟩ := hrel
    have HT2 := Lib.hid ht
    have HB2 := Lib.hid hb
    clear ht hb
    by_cases hlt : k < n
    · have hkl : k < l.length := by rw [HN.out]; exact hlt
      have hat := HT2.out k (by rw [lowTo_len]; exact hkl)
      rw [lowTo_at l k hkl] at hat
      obtain ⟨hc, hf⟩ := hat
      obtain ⟨x, hx⟩ : ∃ x : Nat, (l[k]'hkl).toNat = x := ⟨_, rfl⟩
      have hx9 : x < 256 := by rw [← hx]; exact UInt8.toNat_lt _
      have hlc := lowC_nat (l[k]'hkl)
      rw [hx] at hc hlc
      have HX := Lib.hid hx
      clear hx
      by_cases hup : 65 ≤ x ∧ x ≤ 90
      · rw [if_pos hup] at hlc
        obtain ⟨u1, u2⟩ := hup
        have HQ := Lib.hid hlc
        clear hlc
        go_wp2
        go_roundg (gk - 1)
        case measure => omega
        case rel =>
          refine ⟨k + 1, by omega, by omega, rfl, ?_, HB2.out.setCell (Nat.le_refl _) _⟩
          rw [lowTo_step l k hkl]
          have := HT2.out.set k (by rw [lowTo_len]; exact hkl) (lowC l[k])
          rw [HQ.out] at this
          exact this
      · rw [if_neg hup] at hlc
        have hsame : lowC (l[k]'hkl) = l[k] := UInt8.toNat_inj.1 (by rw [hlc, HX.out])
        have HQ := Lib.hid (lowTo_same l k hkl hsame)
        clear hlc hsame
        have hd : decide (65 ≤ x ∧ x ≤ 90) = false := decide_eq_false hup
        by_cases u1 : 65 ≤ x
        · have u2 : 90 < x := by omega
          clear hup hd
          go_wp2
          go_roundg (gk - 1)
          case measure => omega
          case rel => exact ⟨k + 1, by omega, by omega, rfl, by rw [HQ.out]; exact HT2.out, HB2.out⟩
        · have u2 : x < 65 := by omega
          clear hup hd
          go_wp2
          go_roundg (gk - 1)
          case measure => omega
          case rel => exact ⟨k + 1, by omega, by omega, rfl, by rw [HQ.out]; exact HT2.out, HB2.out⟩
    · obtain rfl : k = n := by omega
      have hcb := string_bytes wr B C k (lowTo l k) (by rw [lowTo_len]; exact HN.out) HT2.out
      have HE : Hid (lowTo l k = l.map lowC) := Lib.hid (by have := lowTo_end l; rwa [HN.out] at this)
      rw [HE.out] at hcb
      go_wp2
      go_ret
      exact ⟨rfl, HB2.out⟩
end Go.Proofs.YtnlaecjniellpaaGreatDoor.Num
