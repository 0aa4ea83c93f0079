/- Plain laws, no program: what reading of separated values computes (a recursive descent), what the reference computes (a machine of states), and that both agree. No conditions. -/
namespace Go.Proofs.YtjndiielolphgaaDoor.Csv

abbrev Bytes := List UInt8

/-- a byte that ends a plain field -/
def stop (sep c : UInt8) : Bool := c == sep || c == 34 || c == 13 || c == 10

def plainLen (sep : UInt8) : Bytes → Nat
  | [] => 0
  | c :: r => if stop sep c then 0 else plainLen sep r + 1

/-- what follows an opening quotation mark: the value and how many bytes it takes with the closing one; 'skip': the last byte was the first of two quotation marks -/
def quoted : Bool → Bytes → Option (Bytes × Nat)
  | _, [] => none
  | true, c :: r => (quoted false r).map fun x => (c :: x.1, x.2 + 1)
  | false, c :: r => if c = 34 then (if r.head? = some 34 then (quoted true r).map fun x => (x.1, x.2 + 1) else some ([], 1)) else (quoted false r).map fun x => (c :: x.1, x.2 + 1)

def field (sep : UInt8) : Bytes → Option (Bytes × Nat)
  | [] => some ([], 0)
  | c :: r => if c = 34 then (quoted false r).map fun x => (x.1, x.2 + 1) else some ((c :: r).take (plainLen sep (c :: r)), plainLen sep (c :: r))

def ends : Bytes → Option Nat
  | [] => some 0
  | c :: r => if c = 10 then some 1 else if c = 13 ∧ r.head? = some 10 then some 2 else none

/-- the result of reading: records, or the place of the first fault -/
inductive Res where
  | ok (rows : List (List Bytes))
  | bad (at_ : Nat)

/-- the fields of a record from place p on (s: what is there): the record and the place behind it, or none (no closing quotation mark). -/
def record (sep : UInt8) : Nat → Bytes → Nat → List Bytes → Option (List Bytes × Nat)
  | 0, _, _, _ => none
  | fuel + 1, s, p, row =>
    match field sep s with
    | none => none
    | some (v, n) => if (s.drop n).head? = some sep then record sep fuel (s.drop (n + 1)) (p + n + 1) (row ++ [v]) else some (row ++ [v], p + n)

def parse (sep : UInt8) (l : Bytes) : Nat → Nat → List (List Bytes) → Res
  | 0, _, _ => .bad 0
  | fuel + 1, p, rows =>
    if p < l.length then
      match record sep (l.length + 1) (l.drop p) p [] with
      | none => .bad l.length
      | some (row, q) =>
        match ends (l.drop q) with
        | none => .bad (if (l.drop q).head? = some 13 then q + 1 else q)
        | some n => parse sep l fuel (q + n) (rows ++ [row])
    else .ok rows

/-- the reference: fuel, rest, place, records, record, field, state, open -/
def ref (sep : UInt8) : Nat → Bytes → Nat → List (List Bytes) → List Bytes → Bytes → Nat → Bool → Res
  | 0, _, _, _, _, _, _, _ => .bad 0
  | _ + 1, [], i, rows, row, f, st, op => if st = 2 then .bad i else if op then .ok (rows ++ [row ++ [f]]) else .ok rows
  | k + 1, c :: r, i, rows, row, f, st, op =>
    if st = 2 then
      if c = 34 then
        if r.head? = some 34 then ref sep k r.tail (i + 2) rows row (f ++ [34]) 2 op
        else ref sep k r (i + 1) rows row f 3 op
      else ref sep k r (i + 1) rows row (f ++ [c]) 2 op
    else if c = sep then ref sep k r (i + 1) rows (row ++ [f]) [] 0 true
    else if c = 10 then ref sep k r (i + 1) (rows ++ [row ++ [f]]) [] [] 0 false
    else if c = 13 then
      if r.head? = some 10 then ref sep k r.tail (i + 2) (rows ++ [row ++ [f]]) [] [] 0 false
      else .bad (i + 1)
    else if c = 34 ∧ st = 0 then ref sep k r (i + 1) rows row f 2 true
    else if c = 34 ∨ st = 3 then .bad i
    else ref sep k r (i + 1) rows row (f ++ [c]) 1 true

/-- enough fuel is as good as more -/
theorem ref_fuel (sep : UInt8) (k : Nat) : ∀ (s : Bytes) (i : Nat) (rows : List (List Bytes)) (row : List Bytes) (f : Bytes) (st : Nat) (op : Bool) (m : Nat),
    s.length < k → s.length < m → ref sep k s i rows row f st op = ref sep m s i rows row f st op := by
  induction k with
  | zero => intro s _ _ _ _ _ _ _ h; omega
  | succ k ih =>
    intro s i rows row f st op m hk hm
    obtain ⟨m, rfl⟩ : ∃ n, m = n + 1 := ⟨m - 1, by omega⟩
    cases s with
    | nil => rfl
    | cons c r =>
      have hl : r.length < k := by simpa using hk
      have hl' : r.length < m := by simpa using hm
      have ht : r.tail.length < k := by simp; omega
      have ht' : r.tail.length < m := by simp; omega
      simp only [ref]
      rw [ih r (i + 1) rows row f 3 op m hl hl', ih r (i + 1) rows row (f ++ [c]) 2 op m hl hl', ih r (i + 1) rows (row ++ [f]) [] 0 true m hl hl',
        ih r (i + 1) (rows ++ [row ++ [f]]) [] [] 0 false m hl hl', ih r (i + 1) rows row f 2 true m hl hl', ih r (i + 1) rows row (f ++ [c]) 1 true m hl hl',
        ih r.tail (i + 2) rows row (f ++ [34]) 2 op m ht ht', ih r.tail (i + 2) (rows ++ [row ++ [f]]) [] [] 0 false m ht ht']

/-- a plain field is read byte by byte -/
theorem ref_plain (sep : UInt8) : ∀ (s : Bytes) (k i : Nat) (rows : List (List Bytes)) (row : List Bytes) (f : Bytes) (st : Nat) (op : Bool), s.length < k → st ≠ 2 → st ≠ 3 →
    ref sep k s i rows row f st op = ref sep k (s.drop (plainLen sep s)) (i + plainLen sep s) rows row (f ++ s.take (plainLen sep s)) (if plainLen sep s = 0 then st else 1) (if plainLen sep s = 0 then op else true) := by
  intro s
  induction s with
  | nil => intro k i rows row f st op _ _ _; simp [plainLen]
  | cons c r ih =>
    intro k i rows row f st op hk h2 h3
    unfold plainLen
    by_cases hs : stop sep c = true
    · simp [hs]
    · obtain ⟨k, rfl⟩ : ∃ n, k = n + 1 := ⟨k - 1, by omega⟩
      have hk' : r.length < k := by simpa using hk
      have h : ¬ (c = sep) ∧ ¬ (c = 34) ∧ ¬ (c = 13) ∧ ¬ (c = 10) := by
        simp [stop] at hs; exact ⟨hs.1.1.1, hs.1.1.2, hs.1.2, hs.2⟩
      obtain ⟨e1, e2, e3, e4⟩ := h
      simp only [hs, if_false, Bool.false_eq_true]
      rw [ref]
      simp only [h2, h3, e1, e2, e3, e4, if_false, false_and, or_self]
      rw [ih k (i + 1) rows row (f ++ [c]) 1 true hk' (by omega) (by omega)]
      have hd : (r.drop (plainLen sep r)).length < k := by simp; omega
      rw [ref_fuel sep k _ _ _ _ _ _ _ (k + 1) hd (by omega)]
      simp only [List.take_succ_cons, List.drop_succ_cons, List.append_assoc, List.cons_append, List.nil_append, Nat.add_eq_zero_iff, ite_self, if_neg (show ¬ (plainLen sep r = 0 ∧ 1 = 0) by omega)]
      rw [show i + 1 + plainLen sep r = i + (plainLen sep r + 1) by omega]

/-- what stands between quotation marks is read pair by pair -/
theorem ref_quoted (sep : UInt8) : ∀ (n : Nat) (s : Bytes) (k i : Nat) (rows : List (List Bytes)) (row : List Bytes) (f : Bytes) (op : Bool), s.length ≤ n → s.length < k →
    ref sep k s i rows row f 2 op = match quoted false s with
      | none => .bad (i + s.length)
      | some (v, m) => ref sep k (s.drop m) (i + m) rows row (f ++ v) 3 op := by
  intro n
  induction n with
  | zero =>
    intro s k i rows row f op h0 hk
    have : s = [] := List.eq_nil_of_length_eq_zero (by omega)
    subst this
    obtain ⟨k, rfl⟩ : ∃ n, k = n + 1 := ⟨k - 1, by omega⟩
    simp [ref, quoted]
  | succ n ih =>
    intro s k i rows row f op hn hk
    obtain ⟨k, rfl⟩ : ∃ n, k = n + 1 := ⟨k - 1, by omega⟩
    cases s with
    | nil => simp [ref, quoted]
    | cons c r =>
      have hk' : r.length < k := by simpa using hk
      have hn' : r.length ≤ n := by simpa using hn
      rw [ref]
      simp only [if_true]
      by_cases hc : c = 34
      · subst hc
        simp only [if_true]
        cases r with
        | nil =>
          simp [quoted]
          obtain ⟨k, rfl⟩ : ∃ n, k = n + 1 := ⟨k - 1, by omega⟩
          rfl
        | cons d r =>
          have hk2 : r.length < k := by simp at hk'; omega
          by_cases hd : d = 34
          · subst hd
            simp only [List.head?_cons, if_true, List.tail_cons]
            rw [ih r k (i + 2) rows row (f ++ [34]) op (by simp at hn'; omega) hk2]
            simp only [quoted, List.head?_cons, if_true]
            cases quoted false r with
            | none => simp; omega
            | some x =>
              simp only [Option.map_some, List.append_assoc, List.cons_append, List.nil_append, List.drop_succ_cons]
              rw [show i + 2 + x.2 = i + (x.2 + 1 + 1) by omega]
              exact ref_fuel sep k _ _ _ _ _ _ _ (k + 1) (by simp; omega) (by simp; omega)
          · have hd' : ¬ (some d = some (34 : UInt8)) := by simpa using hd
            simp only [List.head?_cons, hd', if_false, quoted, if_true, List.append_nil]
            exact ref_fuel sep k _ _ _ _ _ _ _ (k + 1) hk' (by simp at hk' ⊢; omega)
      · simp only [hc, if_false]
        rw [ih r k (i + 1) rows row (f ++ [c]) op hn' hk']
        simp only [quoted, hc, if_false]
        cases quoted false r with
        | none => simp; omega
        | some x =>
          simp only [Option.map_some, List.append_assoc, List.cons_append, List.nil_append, List.drop_succ_cons]
          rw [show i + 1 + x.2 = i + (x.2 + 1) by omega]
          exact ref_fuel sep k _ _ _ _ _ _ _ (k + 1) (by simp; omega) (by simp; omega)

theorem plainLen_le (sep : UInt8) : ∀ s : Bytes, plainLen sep s ≤ s.length
  | [] => by simp [plainLen]
  | c :: r => by
    unfold plainLen
    have := plainLen_le sep r
    split <;> simp <;> omega

/-- what stands behind a plain field ends it -/
theorem plain_head (sep : UInt8) : ∀ s : Bytes, ∀ c r, s.drop (plainLen sep s) = c :: r → stop sep c = true
  | [] => by simp
  | d :: t => by
    intro c r
    unfold plainLen
    by_cases h : stop sep d = true
    · simp only [h, if_true, List.drop_zero]
      intro e
      simp only [List.cons.injEq] at e
      rw [← e.1]; exact h
    · simp only [h, if_false, Bool.false_eq_true, List.drop_succ_cons]
      exact plain_head sep t c r

theorem quoted_le (b : Bool) : ∀ (s : Bytes) (v : Bytes) (n : Nat), quoted b s = some (v, n) → n ≤ s.length ∧ 1 ≤ n := by
  intro s
  induction s generalizing b with
  | nil => intro v n h; cases b <;> simp [quoted] at h
  | cons c r ih =>
    intro v n h
    have key : ∀ b' (g : Bytes × Nat → Bytes × Nat), (∀ x, (g x).2 = x.2 + 1) → (quoted b' r).map g = some (v, n) → n ≤ (c :: r).length ∧ 1 ≤ n := by
      intro b' g hg h
      rw [Option.map_eq_some_iff] at h
      obtain ⟨⟨v', n'⟩, h1, h2⟩ := h
      have h3 := ih b' v' n' h1
      have h4 := hg (v', n')
      rw [h2] at h4
      simp at h4 ⊢; omega
    cases b with
    | true => exact key false _ (fun _ => rfl) (by simpa only [quoted] using h)
    | false =>
      simp only [quoted] at h
      split at h
      · split at h
        · exact key true _ (fun _ => rfl) h
        · simp at h; simp; omega
      · exact key false _ (fun _ => rfl) h

theorem field_le (sep : UInt8) (s v : Bytes) (n : Nat) (h : field sep s = some (v, n)) : n ≤ s.length := by
  cases s with
  | nil => simp [field] at h; omega
  | cons c r =>
    simp only [field] at h
    split at h
    · rw [Option.map_eq_some_iff] at h
      obtain ⟨⟨v', n'⟩, h1, h2⟩ := h
      have h3 := quoted_le _ _ _ _ h1
      simp at h2 ⊢; omega
    · simp only [Option.some.injEq, Prod.mk.injEq] at h
      have := plainLen_le sep (c :: r)
      omega

/-- one field: the machine of states is behind it in a state that reads no quotation mark (but where nothing was read and nothing can follow) -/
theorem ref_field (sep : UInt8) (s : Bytes) (k i : Nat) (rows : List (List Bytes)) (row : List Bytes) (op : Bool) (hk : s.length < k) (hsep : sep ≠ 34) :
    match field sep s with
    | none => ref sep k s i rows row [] 0 op = .bad (i + s.length)
    | some (v, n) => ∃ st op', ref sep k s i rows row [] 0 op = ref sep k (s.drop n) (i + n) rows row v st op' ∧ st ≠ 2 ∧ (n = 0 ∨ op' = true) ∧ (n = 0 → op' = op) ∧
        (∀ c r, s.drop n = c :: r → (c = 34 ∧ st = 0 → False) ∧ (st = 3 ∨ stop sep c = true)) := by
  cases s with
  | nil =>
    simp only [field]
    exact ⟨0, op, by simp, by omega, .inl trivial, fun _ => rfl, by simp⟩
  | cons c r =>
    simp only [field]
    by_cases hc : c = 34
    · subst hc
      simp only [if_true]
      obtain ⟨k, rfl⟩ : ∃ n, k = n + 1 := ⟨k - 1, by omega⟩
      have hk' : r.length < k := by simpa using hk
      have e : ref sep (k + 1) (34 :: r) i rows row [] 0 op = ref sep k r (i + 1) rows row [] 2 true := by
        simp [ref, Ne.symm hsep]
      rw [e, ref_quoted sep r.length r k (i + 1) rows row [] true (Nat.le_refl _) hk']
      cases hq : quoted false r with
      | none => simp; omega
      | some x =>
        have hx := quoted_le _ _ _ _ hq
        simp only [Option.map_some, List.nil_append, List.drop_succ_cons]
        refine ⟨3, true, ?_, by omega, .inr rfl, by omega, fun _ _ _ => ⟨fun h => by omega, .inl rfl⟩⟩
        rw [show i + 1 + x.2 = i + (x.2 + 1) by omega]
        exact ref_fuel sep k _ _ _ _ _ _ _ (k + 1) (by simp; omega) (by simp; omega)
    · simp only [hc, if_false]
      refine ⟨_, _, ref_plain sep (c :: r) k i rows row [] 0 op hk (by omega) (by omega), by split <;> omega, ?_, ?_, ?_⟩
      · by_cases h : plainLen sep (c :: r) = 0 <;> simp [h]
      · intro h; simp [h]
      · intro d t hd
        refine ⟨?_, .inr (plain_head sep _ _ _ hd)⟩
        rintro ⟨rfl, h0⟩
        have hp : plainLen sep (c :: r) = 0 := by
          rcases Nat.eq_zero_or_pos (plainLen sep (c :: r)) with h | h
          · exact h
          · rw [if_neg (by omega)] at h0; omega
        rw [hp] at hd
        simp at hd
        exact hc hd.1

structure SepOk (sep : UInt8) : Prop where
  n34 : sep ≠ 34
  n13 : sep ≠ 13
  n10 : sep ≠ 10

theorem drop_add (s : Bytes) (a b : Nat) : (s.drop a).drop b = s.drop (a + b) := by rw [List.drop_drop]

theorem ref_record (sep : UInt8) (hs : SepOk sep) : ∀ (m : Nat) (s : Bytes) (k i : Nat) (rows : List (List Bytes)) (row : List Bytes) (op : Bool), s.length < m → s.length < k → (s ≠ [] ∨ op = true) →
    match record sep m s i row with
    | none => ref sep k s i rows row [] 0 op = .bad (i + s.length)
    | some (row', q) => i ≤ q ∧ q - i ≤ s.length ∧ row' ≠ [] ∧ (1 ≤ q - i ∨ (ends (s.drop (q - i)) = some 0 ∨ (∃ n, ends (s.drop (q - i)) = some (n + 1)) ∨ ends (s.drop (q - i)) = none)) ∧
      match ends (s.drop (q - i)) with
      | none => ref sep k s i rows row [] 0 op = .bad (if (s.drop (q - i)).head? = some 13 then q + 1 else q)
      | some n => ref sep k s i rows row [] 0 op = ref sep k (s.drop (q - i + n)) (q + n) (rows ++ [row']) [] [] 0 false := by
  intro m
  induction m with
  | zero => intro s k i rows row op h; omega
  | succ m ih =>
    intro s k i rows row op hm hk hop
    have hf := ref_field sep s k i rows row op hk hs.n34
    simp only [record]
    cases hfe : field sep s with
    | none => rw [hfe] at hf; exact hf
    | some x =>
      obtain ⟨v, n⟩ := x
      rw [hfe] at hf
      obtain ⟨st, op', e, h2, ho, h0, hh⟩ := hf
      have hn := field_le sep s v n hfe
      have hlen : (s.drop n).length < k := by simp; omega
      simp only
      cases hd : s.drop n with
      | nil =>
        have hop' : op' = true := by
          rcases ho with h | h
          · rw [h0 h]
            rcases hop with h' | h'
            · subst h; simp at hd; exact absurd hd h'
            · exact h'
          · exact h
        simp only [List.head?_nil, reduceCtorEq, if_false]
        refine ⟨by omega, by omega, by simp, .inr (.inl (by rw [show i + n - i = n by omega, hd]; rfl)), ?_⟩
        rw [show i + n - i = n by omega, hd]
        simp only [ends]
        rw [e, hd, ← drop_add, hd]
        obtain ⟨k, rfl⟩ : ∃ n, k = n + 1 := ⟨k - 1, by omega⟩
        simp [ref, h2, hop']
      | cons c r =>
        obtain ⟨g1, g2⟩ := hh c r hd
        rw [hd] at hlen e
        obtain ⟨k, rfl⟩ : ∃ n, k = n + 1 := ⟨k - 1, by omega⟩
        have hr1 : s.drop (n + 1) = r := by rw [← drop_add, hd]; rfl
        by_cases hc : c = sep
        · subst hc
          simp only [List.head?_cons, if_true]
          have hrl : r.length + 1 = s.length - n := by have := congrArg List.length hd; simp at this; omega
          have e2 : ref c (k + 1) (c :: r) (i + n) rows row v st op' = ref c (k + 1) r (i + n + 1) rows (row ++ [v]) [] 0 true := by
            rw [ref]
            simp only [h2, if_false, if_true]
            exact ref_fuel c k _ _ _ _ _ _ _ (k + 1) (by simpa using hlen) (by simp at hlen; omega)
          have hi := ih r (k + 1) (i + n + 1) rows (row ++ [v]) true (by omega) (by simp at hlen; omega) (.inr rfl)
          rw [hr1, e, e2]
          cases hre : record c m r (i + n + 1) (row ++ [v]) with
          | none =>
            rw [hre] at hi
            simp only at hi ⊢
            rw [hi]; congr 1; omega
          | some y =>
            obtain ⟨row', q⟩ := y
            rw [hre] at hi
            simp only at hi ⊢
            obtain ⟨i1, i2, i3, i4, i5⟩ := hi
            have hdq : s.drop (q - i) = r.drop (q - (i + n + 1)) := by
              rw [← hr1, drop_add]; congr 1; omega
            refine ⟨by omega, by omega, i3, .inl (by omega), ?_⟩
            rw [hdq]
            have hdq2 : ∀ n', s.drop (q - i + n') = r.drop (q - (i + n + 1) + n') := by
              intro n'; rw [← hr1, drop_add]; congr 1; omega
            cases hen : ends (r.drop (q - (i + n + 1))) with
            | none => rw [hen] at i5; exact i5
            | some z => rw [hen] at i5; simp only [hdq2]; exact i5
        · have hc' : ¬ (some c = some sep) := by simpa using hc
          simp only [List.head?_cons, hc', if_false]
          refine ⟨by omega, by omega, by simp, ?_, ?_⟩
          · rw [show i + n - i = n by omega, hd]
            by_cases c10 : c = 10
            · exact .inr (.inr (.inl ⟨0, by simp [ends, c10]⟩))
            · by_cases c13 : c = 13 ∧ r.head? = some 10
              · exact .inr (.inr (.inl ⟨1, by simp [ends, c13]⟩))
              · exact .inr (.inr (.inr (by simp [ends, c10]; simpa using c13)))
          · rw [show i + n - i = n by omega, hd]
            by_cases c10 : c = 10
            · subst c10
              simp only [ends, if_true]
              rw [e, ref, hr1]
              simp only [h2, if_false, hc, if_true]
              exact ref_fuel sep k _ _ _ _ _ _ _ (k + 1) (by simpa using hlen) (by simp at hlen; omega)
            · by_cases c13 : c = 13
              · subst c13
                by_cases r10 : r.head? = some 10
                · have ht : s.drop (n + 2) = r.tail := by rw [← hr1, List.tail_drop]
                  simp only [ends, c10, r10, and_self, if_true, if_false]
                  rw [e, ref, ht]
                  simp only [h2, if_false, hc, c10, r10, if_true]
                  exact ref_fuel sep k _ _ _ _ _ _ _ (k + 1) (by simp at hlen ⊢; omega) (by simp at hlen ⊢; omega)
                · simp only [ends, c10, r10, and_false, if_false, List.head?_cons, if_true]
                  rw [e, ref]
                  simp only [h2, if_false, hc, c10, r10, if_true]
              · have c13' : ¬ (some c = some (13 : UInt8)) := by simpa using c13
                simp only [ends, c10, c13, false_and, if_false, List.head?_cons, c13']
                rw [e, ref]
                have g3 : ¬ (c = 34 ∧ st = 0) := g1
                have g4 : c = 34 ∨ st = 3 := by
                  rcases g2 with g2 | g2
                  · exact .inr g2
                  · simp [stop, hc, c10, c13] at g2
                    exact .inl g2
                simp only [h2, if_false, hc, c10, c13, g3, g4, if_true]

/-- THE LAW: the reference reads what the program reads. -/
theorem ref_parse (sep : UInt8) (hs : SepOk sep) (l : Bytes) : ∀ (m p : Nat) (rows : List (List Bytes)), p ≤ l.length → l.length < p + m →
    parse sep l m p rows = ref sep (l.length + 1) (l.drop p) p rows [] [] 0 false := by
  intro m
  induction m with
  | zero => intro p rows h1 h2; omega
  | succ m ih =>
    intro p rows h1 h2
    simp only [parse]
    by_cases hp : p < l.length
    · simp only [hp, if_true]
      have hne : l.drop p ≠ [] := by intro h; have := congrArg List.length h; simp at this; omega
      have hr := ref_record sep hs (l.length + 1) (l.drop p) (l.length + 1) p rows [] false (by simp; omega) (by simp; omega) (.inl hne)
      cases hre : record sep (l.length + 1) (l.drop p) p [] with
      | none =>
        rw [hre] at hr
        simp only at hr ⊢
        rw [hr]; congr 1; simp; omega
      | some y =>
        obtain ⟨row, q⟩ := y
        rw [hre] at hr
        simp only at hr ⊢
        obtain ⟨i1, i2, i3, i4, i5⟩ := hr
        have hdq : (l.drop p).drop (q - p) = l.drop q := by rw [drop_add]; congr 1; omega
        have hdq2 : ∀ n, (l.drop p).drop (q - p + n) = l.drop (q + n) := by intro n; rw [drop_add]; congr 1; omega
        rw [hdq] at i4 i5
        simp only [List.length_drop] at i2
        cases hen : ends (l.drop q) with
        | none => rw [hen] at i5; exact i5.symm
        | some n =>
          rw [hen] at i5
          simp only at i5 ⊢
          rw [i5, hdq2]
          have hql : q + n ≤ l.length := by
            have : n ≤ (l.drop q).length := by
              cases hd : l.drop q with
              | nil => rw [hd] at hen; simp [ends] at hen; omega
              | cons c r =>
                rw [hd] at hen
                simp only [ends] at hen
                split at hen
                · simp at hen; simp; omega
                · split at hen
                  · rename_i h; simp at hen; cases r with
                    | nil => simp at h
                    | cons d t => simp; omega
                  · simp at hen
            simp at this; omega
          have hgt : p < q + n := by
            rcases Nat.lt_or_ge p q with h | h
            · omega
            · have hpq : q = p := by omega
              subst hpq
              rcases i4 with h4 | h4 | ⟨n', h4⟩ | h4
              · omega
              · rw [hen] at h4
                cases hd : l.drop q with
                | nil => exact absurd hd hne
                | cons c r =>
                  rw [hd] at hen
                  simp only [ends] at hen
                  split at hen
                  · simp at hen; omega
                  · split at hen
                    · simp at hen; omega
                    · simp at hen
              · rw [hen] at h4; simp at h4; omega
              · rw [hen] at h4; simp at h4
          exact ih (q + n) (rows ++ [row]) hql (by omega)
    · have : p = l.length := by omega
      subst this
      simp [ref]
end Go.Proofs.YtjndiielolphgaaDoor.Csv
