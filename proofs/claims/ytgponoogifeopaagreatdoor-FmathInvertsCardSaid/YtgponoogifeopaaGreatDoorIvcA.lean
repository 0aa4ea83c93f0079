/- Numbers as texts of digits, fractions, values and the functions of fmath: contracts of the program's functions, joined from smaller texts. Conditions stand at each theorem. -/
import Derived.Test.YtgponoogifeopaaGreatDoorIvaB
import Derived.Test.YtgponoogifeopaaGreatDoorIvbA

/- What elimination keeps in memory: two matrices, the result's block, the determinant's. No conditions. -/
namespace Go.Proofs.YtgponoogifeopaaGreatDoor.Num.Mt
open Go.RowKit Go.Lib Num

structure ElI (W : World) (base bm bo R D n : Nat) (gm go : Nat → Nat) (m out : Mx) (d : Rat) (wx : World) : Prop where
  m : MxAt wx bm n n gm m
  o : MxAt wx bo n n go out
  res : wx.heap[R]? = some (.cells #[.string { data := #[] }, .string { data := #[] }] 24 (0, 0))
  det : wx.heap[D]? = some (.cells #[.string (numS d), .string (denS d)] 24 (0, 0))
  lm : bm < R ∧ ∀ r, r < n → gm r < R
  lo : R < bo ∧ bo < D ∧ ∀ r, r < n → R < go r ∧ go r < D
  ge : base ≤ bm ∧ base ≤ R ∧ ∀ r, r < n → base ≤ gm r
  low : Below base W wx
section
variable {W wx : World} {base bm bo R D n : Nat} {gm go : Nat → Nat} {m out : Mx} {d : Rat}
theorem ElI.step (h : ElI W base bm bo R D n gm go m out d wx) {w' : World} (hb : Below wx.heap.size wx w') : ElI W base bm bo R D n gm go m out d w' :=
  ⟨h.m.below hb, h.o.below hb, keep_block h.res hb, keep_block h.det hb, h.lm, h.lo, h.ge, h.low.trans (hb.mono (Nat.le_trans (Nat.le_trans h.ge.2.1 (Nat.le_of_lt (heap_lt h.res))) (Nat.le_refl _)))⟩
theorem ElI.env (h : ElI W base bm bo R D n gm go m out d wx) (hE : Env W) (hP : Past base) : Env wx := hE.low h.low.block hP h.low.size
theorem ElI.setm (h : ElI W base bm bo R D n gm go m out d wx) {r c : Nat} (hr : r < n) (hc : c < n) (q : Rat) : ElI W base bm bo R D n gm go (setM m r c q) out d (putF wx (gm r) c q) := by
  have h1 := h.lm.2 r hr
  have h2 := h.lo
  exact ⟨h.m.put hr hc q, h.o.other (by omega) (fun s hs => by have := h2.2.2 s hs; omega) c q, (putF_other wx _ c q (by omega)).trans h.res, (putF_other wx _ c q (by omega)).trans h.det, h.lm, h.lo, h.ge, putF_below h.low (h.ge.2.2 r hr) c q⟩
theorem ElI.seto (h : ElI W base bm bo R D n gm go m out d wx) {r c : Nat} (hr : r < n) (hc : c < n) (q : Rat) : ElI W base bm bo R D n gm go m (setM out r c q) d (putF wx (go r) c q) := by
  have h1 := h.lm
  have h2 := h.lo.2.2 r hr
  have h3 := h.ge.2.1
  exact ⟨h.m.other (by omega) (fun s hs => by have := h1.2 s hs; omega) c q, h.o.put hr hc q, (putF_other wx _ c q (by omega)).trans h.res, (putF_other wx _ c q (by omega)).trans h.det, h.lm, h.lo, h.ge, putF_below h.low (by omega) c q⟩
theorem ElI.setd (h : ElI W base bm bo R D n gm go m out d wx) (q : Rat) : ElI W base bm bo R D n gm go m out q ((wx.setCell ⟨D, 0, none⟩ (.string (numS q))).setCell ⟨D, 1, none⟩ (.string (denS q))) := by
  have h1 := h.lm
  have h2 := h.lo
  have h3 := h.ge.2.1
  have hd := set2_at h.det (.string (numS q)) (.string (denS q))
  have ho : ∀ k, k ≠ D → ((wx.setCell ⟨D, 0, none⟩ (.string (numS q))).setCell ⟨D, 1, none⟩ (.string (denS q))).heap[k]? = wx.heap[k]? := fun k hk => set2_other wx D (.string (numS q)) (.string (denS q)) hk
  exact ⟨h.m.keep (ho _ (by omega)) (fun r hr => ho _ (by have := h1.2 r hr; omega)), h.o.keep (ho _ (by omega)) (fun r hr => ho _ (by have := h2.2.2 r hr; omega)), (ho _ (by omega)).trans h.res, hd, h.lm, h.lo, h.ge, h.low.trans (put2_below (by omega) wx _ _)⟩
theorem ElI.swap (h : ElI W base bm bo R D n gm go m out d wx) {i k : Nat} (hi : i < n) (hk : k < n) (C1 C2 C3 C4 : Nat) :
    ElI W base bm bo R D n (swapF gm i k) (swapF go i k) (swapM m i k) (swapM out i k) d
      (swapW (swapW wx bm i k (.slice (some ⟨gm k, 0, none⟩) n C1) (.slice (some ⟨gm i, 0, none⟩) n C2)) bo i k (.slice (some ⟨go k, 0, none⟩) n C3) (.slice (some ⟨go i, 0, none⟩) n C4)) := by
  have h1 := h.lm
  have h2 := h.lo
  have h3 := h.ge
  have sw : ∀ (g : Nat → Nat) (P : Nat → Prop), (∀ r, r < n → P (g r)) → ∀ r, r < n → P (swapF g i k r) := by
    intro g P hp r hr
    unfold swapF
    split
    · exact hp k hk
    · split
      · exact hp i hi
      · exact hp r hr
  have hm := h.m.swap hi hk C1 C2
  have ho := h.o.swap_other (x := bm) (by omega) (fun r hr => by have := h2.2.2 r hr; omega) i k (.slice (some ⟨gm k, 0, none⟩) n C1) (.slice (some ⟨gm i, 0, none⟩) n C2)
  have hm2 := hm.swap_other (x := bo) (by omega) (sw gm (fun x => bo ≠ x) (fun r hr => by have := h1.2 r hr; omega)) i k (.slice (some ⟨go k, 0, none⟩) n C3) (.slice (some ⟨go i, 0, none⟩) n C4)
  have ho2 := ho.swap hi hk C3 C4
  refine ⟨hm2, ho2, ?_, ?_, ⟨h1.1, sw gm (fun x => x < R) h1.2⟩, ⟨h2.1, h2.2.1, sw go (fun x => R < x ∧ x < D) h2.2.2⟩, ⟨h3.1, h3.2.1, sw gm (fun x => base ≤ x) h3.2.2⟩, ?_⟩
  · exact (swapW_other _ bo i k _ _ (by omega)).trans ((swapW_other _ bm i k _ _ (by omega)).trans h.res)
  · exact (swapW_other _ bo i k _ _ (by omega)).trans ((swapW_other _ bm i k _ _ (by omega)).trans h.det)
  · exact ((((h.low.setCell (p := ⟨bm, i, none⟩) h3.1 _).setCell (p := ⟨bm, k, none⟩) h3.1 _).setCell (p := ⟨bo, i, none⟩) (by simp only []; omega) _).setCell (p := ⟨bo, k, none⟩) (by simp only []; omega) _)
theorem ElI.congr (h : ElI W base bm bo R D n gm go m out d wx) {m' out' : Mx} (hm : ∀ r c, r < n → c < n → m' r c = m r c) (ho : ∀ r c, r < n → c < n → out' r c = out r c) : ElI W base bm bo R D n gm go m' out' d wx :=
  ⟨h.m.congr hm, h.o.congr ho, h.res, h.det, h.lm, h.lo, h.ge, h.low⟩
/-- a variable of the call's own, behind all of them -/
theorem ElI.var (h : ElI W base bm bo R D n gm go m out d wx) {F : Nat} {q : Rat} (hF : wx.heap[F]? = some (.cells #[.string (numS q), .string (denS q)] 24 (0, 0))) (hD : D < F) {r c : Nat} (hr : r < n) (x : Rat) :
    (putF wx (gm r) c x).heap[F]? = some (.cells #[.string (numS q), .string (denS q)] 24 (0, 0)) ∧ (putF wx (go r) c x).heap[F]? = some (.cells #[.string (numS q), .string (denS q)] 24 (0, 0)) := by
  have h1 := h.lm.2 r hr
  have h2 := h.lo.2.2 r hr
  have h3 := h.lo
  exact ⟨(putF_other wx _ c x (by omega)).trans hF, (putF_other wx _ c x (by omega)).trans hF⟩
end
/-- row r anew up to column c: what a round over the columns has done -/
def colsM (m : Mx) (j : Nat) (f : Nat → Rat) (k : Nat) : Mx := fun r c => if r = j ∧ c < k then f c else m r c
theorem colsM_zero (m : Mx) (j : Nat) (f : Nat → Rat) : colsM m j f 0 = m := by
  funext r c
  unfold colsM
  rw [if_neg (by omega)]
theorem colsM_succ (m : Mx) (j : Nat) (f : Nat → Rat) (k : Nat) : colsM m j f (k + 1) = setM (colsM m j f k) j k (f k) := by
  funext r c
  show (if r = j ∧ c < k + 1 then f c else m r c) = if r = j ∧ c = k then f k else if r = j ∧ c < k then f c else m r c
  by_cases e : r = j ∧ c = k
  · rw [if_pos e, if_pos ⟨e.1, by omega⟩, e.2]
  · rw [if_neg e]
    by_cases e2 : r = j ∧ c < k
    · rw [if_pos e2, if_pos ⟨e2.1, by omega⟩]
    · rw [if_neg e2, if_neg (by omega)]
theorem colsM_at {m : Mx} {j : Nat} {f : Nat → Rat} {k r c : Nat} (h : r ≠ j ∨ k ≤ c) : colsM m j f k r c = m r c := by
  unfold colsM
  rw [if_neg (by omega)]
theorem MxAt.full {W : World} {b n j : Nat} {g : Nat → Nat} {m : Mx} {f : Nat → Rat} {m' : Mx} (h : MxAt W b n n g (colsM m j f n)) (he : ∀ r c, r < n → c < n → m' r c = if r = j then f c else m r c) : MxAt W b n n g m' :=
  h.congr fun r c hr hc => by
    rw [he r c hr hc]
    unfold colsM
    by_cases e : r = j
    · rw [if_pos e, if_pos ⟨e, hc⟩]
    · rw [if_neg e, if_neg (fun h => e h.1)]
end Go.Proofs.YtgponoogifeopaaGreatDoor.Num.Mt
