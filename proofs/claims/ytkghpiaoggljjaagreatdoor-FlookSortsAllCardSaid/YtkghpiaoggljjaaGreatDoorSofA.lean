/- Numbers as texts of digits, fractions, values and the functions of fmath: contracts of the program's functions, joined from smaller texts. Conditions stand at each theorem. -/
import Derived.Test.YtkghpiaoggljjaaGreatDoorSoeB
import Derived.Deep.DeepCutAuto
import Derived.Test.YtkghpiaoggljjaaGreatDoorSodA
import Derived.Test.YtkghpiaoggljjaaGreatDoorSoeA
set_option linter.unusedVariables false
set_option linter.unusedSimpArgs false

/- package flook: what stands while SORTBY's function reads its arguments: an array, a column of keys, a way. Conditions: the tables lie as they are laid. -/
namespace Go.Proofs.YtkghpiaoggljjaaGreatDoor.Num.Fl
open Go.RowKit Go.Lib Num

theorem wp_region_all {P : Program} {ops : Array Oper} {Q : Exit → Act → World → Prop} {id : Nat} {a0 : Act} {w : World} (n : Nat) (rem : List Nat) (hm : P.follows .mixedOrders = true) (hb : backB ops = true) (hn : ops.size = n) (hr : List.range n = rem) (h : restOps P ops Q n rem a0 w.drew) : (Code.region id ops true).wp P Q a0 w := by
 subst hn
 subst hr
 refine wp_region_rest 0 (fun _ a W => a = a0 ∧ W = w.drew) hm hb (Nat.zero_le _) (by simp) ⟨rfl, rfl⟩ (fun _ _ _ _ i hi => absurd hi (by omega)) ?_
 rintro _ a W ⟨rfl, rfl⟩ _
 rw [Nat.sub_zero, List.drop_zero]
 exact h
theorem info_arr : ∃ i, Tryz.prog.info? 69 = some i ∧ i.zero = some (.agg #[.int .i64 0, .int .i64 0, .slice none 0 0]) ∧ i.size = 3 ∧ i.bytes = 40 := info_parts (by kernel_rfl : (Tryz.prog.info? 69).map (fun i => (i.zero, i.size, i.bytes)) = some (some (.agg #[.int .i64 0, .int .i64 0, .slice none 0 0]), 3, 40))
/-- the arguments, the array (block B3), the keys' row (its variable in block BL), the ways' row (in block BW) -/
structure SbI (w0 : World) (b g C : Nat) (vs : List Val) (gi : Nat) (qs : List Rat) (gk : Nat) (ks : List Rat) (B3 BL BW BB : Nat) (src : Array Value) (lb lv : Value) (ln : Nat) (lx : List Value) (wb wv : Value) (wn : Nat) (wx : List Value) (i : Nat) (W : World) : Prop where
 ix : IxI w0 b g C vs gi qs i W
 key : ValsAt W gk 0 (numVals ks)
 gkb : gk ≠ b
 gkl : gk < w0.heap.size
 h3 : W.heap[B3]? = some (.cells src 69 (0, 0))
 hl : W.heap[BL]? = some (.cells #[lb] 114 (0, 0))
 hw : W.heap[BW]? = some (.cells #[wb] 22 (0, 0))
 ol : W.ownsRow BB 69 3 lv ln lx
 ow : W.ownsRow BB 3 1 wv wn wx
 size : BB ≤ W.heap.size
 o1 : w0.heap.size < B3
 o2 : B3 < BL
 o3 : BL < BW
 o4 : BW < BB
section
variable {w0 W W' : World} {b g C gi gk i i' B3 BL BW BB ln wn n : Nat} {vs : List Val} {qs ks : List Rat} {src : Array Value} {lb lv wb wv v : Value} {lx wx ys : List Value}
theorem owned_ge {T : TypeId} {z : Nat} (h : W.ownsRow BB T z v n ys) : ∀ q, v.ownBlock = some q → BB ≤ q := by
 intro q hq
 rcases h.2 with ⟨rfl, _⟩ | ⟨g, cap, cur, rfl, hg, _⟩
 ·simp [Value.ownBlock] at hq
 ·simp [Value.ownBlock] at hq; omega
theorem SbI.step (h : SbI w0 b g C vs gi qs gk ks B3 BL BW BB src lb lv ln lx wb wv wn wx i W) (hb : Below W.heap.size W W') : SbI w0 b g C vs gi qs gk ks B3 BL BW BB src lb lv ln lx wb wv wn wx i W' :=
 ⟨h.ix.step hb, h.key.below hb, h.gkb, h.gkl, keep_block h.h3 hb, keep_block h.hl hb, keep_block h.hw hb, h.ol.kept (only_of_below hb none) (by cases lv.ownBlock <;> simp), h.ow.kept (only_of_below hb none) (by cases wv.ownBlock <;> simp), Nat.le_trans h.size hb.size, h.o1, h.o2, h.o3, h.o4⟩
theorem SbI.grow (h : SbI w0 b g C vs gi qs gk ks B3 BL BW BB src lb lv ln lx wb wv wn wx i W) (ha : ArgsAt W' b (some ⟨g, 0, none⟩) vs.length C i') (hg : W.grownBy W' (some b)) : SbI w0 b g C vs gi qs gk ks B3 BL BW BB src lb lv ln lx wb wv wn wx i' W' := by
 have hbl := h.ix.bl; have p1 := h.o1; have p2 := h.o2; have p3 := h.o3; have p4 := h.o4
 exact ⟨h.ix.grow ha hg, vals_kept h.key hg h.gkb (Nat.lt_of_lt_of_le h.gkl h.ix.low.size), h.gkb, h.gkl, kept_block h.h3 hg (by omega), kept_block h.hl hg (by omega), kept_block h.hw hg (by omega), h.ol.kept hg (.inr fun e => by have := owned_ge h.ol _ e; omega), h.ow.kept hg (.inr fun e => by have := owned_ge h.ow _ e; omega), Nat.le_trans h.size hg.size, h.o1, h.o2, h.o3, h.o4⟩
/-- the row of lines grows; the row of ways; each is stored -/
theorem SbI.pushL {n' : Nat} {v' : Value} (h : SbI w0 b g C vs gi qs gk ks B3 BL BW BB src lb lv ln lx wb wv wn wx i W) (hn : lv.ownBlock = none) (ho : W'.ownsRow BB 69 3 v' n' ys) (hg : W.grownBy W' lv.ownBlock) : SbI w0 b g C vs gi qs gk ks B3 BL BW BB src lb v' n' ys wb wv wn wx i W' := by
 rw [hn] at hg
 have hb : Below W.heap.size W W' := ⟨hg.os, hg.tape, hg.output, hg.size, fun k hk => hg.block k hk (fun e => by cases e)⟩
 have h' := h.step hb
 exact ⟨h'.ix, h'.key, h'.gkb, h'.gkl, h'.h3, h'.hl, h'.hw, ho, h'.ow, h'.size, h'.o1, h'.o2, h'.o3, h'.o4⟩
theorem SbI.pushW {n' : Nat} {v' : Value} (h : SbI w0 b g C vs gi qs gk ks B3 BL BW BB src lb lv ln lx wb wv wn wx i W) (hn : wv.ownBlock = none) (ho : W'.ownsRow BB 3 1 v' n' ys) (hg : W.grownBy W' wv.ownBlock) : SbI w0 b g C vs gi qs gk ks B3 BL BW BB src lb lv ln lx wb v' n' ys i W' := by
 rw [hn] at hg
 have hb : Below W.heap.size W W' := ⟨hg.os, hg.tape, hg.output, hg.size, fun k hk => hg.block k hk (fun e => by cases e)⟩
 have h' := h.step hb
 exact ⟨h'.ix, h'.key, h'.gkb, h'.gkl, h'.h3, h'.hl, h'.hw, h'.ol, ho, h'.size, h'.o1, h'.o2, h'.o3, h'.o4⟩
theorem SbI.far (h : SbI w0 b g C vs gi qs gk ks B3 BL BW BB src lb lv ln lx wb wv wn wx i W) {q : Nat} (hq : w0.heap.size < q) (hg : W.grownBy W' (some q)) : IxI w0 b g C vs gi qs i W' ∧ ValsAt W' gk 0 (numVals ks) ∧ BB ≤ W'.heap.size :=
 ⟨h.ix.kept hg hq, vals_kept h.key hg (by have := h.gkl; omega) (Nat.lt_of_lt_of_le h.gkl h.ix.low.size), Nat.le_trans h.size hg.size⟩
theorem SbI.storeL (h : SbI w0 b g C vs gi qs gk ks B3 BL BW BB src lb lv ln lx wb wv wn wx i W) : SbI w0 b g C vs gi qs gk ks B3 BL BW BB src lv lv ln lx wb wv wn wx i (W.setCell ⟨BL, 0, none⟩ lv) := by
 have p1 := h.o1; have p2 := h.o2; have p3 := h.o3; have p4 := h.o4
 have hg : W.grownBy (W.setCell ⟨BL, 0, none⟩ lv) (some BL) := only_setCell (p := ⟨BL, 0, none⟩) (only_refl W _) (.inl rfl) _
 obtain ⟨a1, a2, a3⟩ := h.far (by omega) hg
 refine ⟨a1, a2, h.gkb, h.gkl, kept_block h.h3 hg (by omega), ?_, kept_block h.hw hg (by omega), h.ol.kept hg (.inr fun e => by have := owned_ge h.ol _ e; omega), h.ow.kept hg (.inr fun e => by have := owned_ge h.ow _ e; omega), a3, p1, p2, p3, p4⟩
 have := heap_setCell_at h.hl 0 lv
 rw [this]; rfl
theorem SbI.storeW (h : SbI w0 b g C vs gi qs gk ks B3 BL BW BB src lb lv ln lx wb wv wn wx i W) : SbI w0 b g C vs gi qs gk ks B3 BL BW BB src lb lv ln lx wv wv wn wx i (W.setCell ⟨BW, 0, none⟩ wv) := by
 have p1 := h.o1; have p2 := h.o2; have p3 := h.o3; have p4 := h.o4
 have hg : W.grownBy (W.setCell ⟨BW, 0, none⟩ wv) (some BW) := only_setCell (p := ⟨BW, 0, none⟩) (only_refl W _) (.inl rfl) _
 obtain ⟨a1, a2, a3⟩ := h.far (by omega) hg
 refine ⟨a1, a2, h.gkb, h.gkl, kept_block h.h3 hg (by omega), kept_block h.hl hg (by omega), ?_, h.ol.kept hg (.inr fun e => by have := owned_ge h.ol _ e; omega), h.ow.kept hg (.inr fun e => by have := owned_ge h.ow _ e; omega), a3, p1, p2, p3, p4⟩
 have := heap_setCell_at h.hw 0 wv
 rw [this]; rfl
/-- the next argument is an array; is a whole number; whether there is one -/
theorem SbI.value (r s : Int) (ga n Ca : Nat) (h : SbI w0 b g C vs gi qs gk ks B3 BL BW BB src lb lv ln lx wb wv wn wx i W) (hi : i < vs.length) (hv : vs[i] = arrVal' r s ga n Ca) :
  Calls Tryz.prog 46 #[.pointer (some ⟨b, 0, none⟩)] W fun e w' => e = .returned (.agg #[.int .i64 5, .string { data := #[] }, .string { data := #[] }, .string { data := #[] }, .bool false, .int .i64 0, .int .i64 r, .int .i64 s, .slice (some ⟨ga, 0, none⟩) n Ca]) ∧ SbI w0 b g C vs gi qs gk ks B3 BL BW BB src lb lv ln lx wb wv wn wx (i + 1) w' := by
 have hc := h.ix.vals.at i hi
 rw [hv] at hc
 refine (value_any b g 0 vs.length C i _ _ _ _ _ _ _ _ _ _ _ W h.ix.args hi (by have := h.ix.len; omega) h.ix.gb hc).mono ?_
 rintro e w' ⟨rfl, ha, hg⟩
 exact ⟨rfl, h.grow ha hg⟩
theorem SbI.whole (m : Int) (h : SbI w0 b g C vs gi qs gk ks B3 BL BW BB src lb lv ln lx wb wv wn wx i W) (hi : i < vs.length) (hv : vs[i] = numVal' ((m : Int) : Rat)) (hm : m.natAbs ≤ 1000000) :
  Calls Tryz.prog 126 #[.pointer (some ⟨b, 0, none⟩)] W fun e w' => e = .returned (.int .i64 m) ∧ SbI w0 b g C vs gi qs gk ks B3 BL BW BB src lb lv ln lx wb wv wn wx (i + 1) w' := by
 have hc := h.ix.vals.at i hi
 rw [hv] at hc
 have hf : (((m : Int) : Rat)).floor = m := Rat.floor_intCast _
 refine (argWhole_any b g 0 vs.length C i ((m : Int) : Rat) W h.ix.args hi (by have := h.ix.len; omega) h.ix.gb hc (fits_int m (by omega)) (by rw [hf]; omega) (by rw [hf]; omega) h.ix.env h.ix.past).mono ?_
 rintro e w' ⟨rfl, ha, hg⟩
 exact ⟨by rw [hf], h.grow ha hg⟩
theorem SbI.more (h : SbI w0 b g C vs gi qs gk ks B3 BL BW BB src lb lv ln lx wb wv wn wx i W) :
  Calls Tryz.prog 125 #[.pointer (some ⟨b, 0, none⟩)] W fun e w' => e = .returned (.bool (decide (i < vs.length))) ∧ SbI w0 b g C vs gi qs gk ks B3 BL BW BB src lb lv ln lx wb wv wn wx i w' := by
 refine (more_any b (some ⟨g, 0, none⟩) vs.length C i W h.ix.args (by have := h.ix.len; omega)).mono ?_
 rintro e w' ⟨rfl, hb⟩
 exact ⟨rfl, h.step hb⟩
end
end Go.Proofs.YtkghpiaoggljjaaGreatDoor.Num.Fl

/- package flook: sortBy at an array, a column of keys and a way. Conditions: sizes from 1 on, at most thirty rows; the numbers fit; the tables lie as they are laid. -/
namespace Go.Proofs.YtkghpiaoggljjaaGreatDoor.Num.Fl
open Go.RowKit Go.Lib Num
theorem value_two {w0 W : World} {b g C gi gk i : Nat} {vs : List Val} {qs ks : List Rat} (h : IxI w0 b g C vs gi qs i W) (hk : ValsAt W gk 0 (numVals ks)) (hgb : gk ≠ b) (hgl : gk < w0.heap.size) (r s : Int) (Ci : Nat) (hi : i < vs.length) (hv : vs[i] = arrVal' r s gi qs.length Ci) :
  Calls Tryz.prog 46 #[.pointer (some ⟨b, 0, none⟩)] W fun e w' => e = .returned (.agg #[.int .i64 5, .string { data := #[] }, .string { data := #[] }, .string { data := #[] }, .bool false, .int .i64 0, .int .i64 r, .int .i64 s, .slice (some ⟨gi, 0, none⟩) qs.length Ci]) ∧ IxI w0 b g C vs gi qs (i + 1) w' ∧ ValsAt w' gk 0 (numVals ks) := by
 have hc := h.vals.at i hi
 rw [hv] at hc
 refine (value_any b g 0 vs.length C i _ _ _ _ _ _ _ _ _ _ _ W h.args hi (by have := h.len; omega) h.gb hc).mono ?_
 rintro e w' ⟨rfl, ha, hg⟩
 exact ⟨rfl, h.grow ha hg, vals_kept hk hg hgb (Nat.lt_of_lt_of_le hgl h.low.size)⟩
theorem SbI.start {w0 W : World} {b g C gi gk i B3 : Nat} {vs : List Val} {qs ks : List Rat} (h : IxI w0 b g C vs gi qs i W) (hk : ValsAt W gk 0 (numVals ks)) (hgb : gk ≠ b) (hgl : gk < w0.heap.size) (src : Array Value) (hB : W.heap.size = B3 := by rfl) :
  SbI w0 b g C vs gi qs gk ks B3 (B3 + 1) (B3 + 1 + 1) (B3 + 1 + 1 + 1) src (.slice none 0 0) (.slice none 0 0) 0 [] (.slice none 0 0) (.slice none 0 0) 0 [] i (((W.alloc (.cells src 69)).alloc (.cells #[.slice none 0 0] 114)).alloc (.cells #[.slice none 0 0] 22)) := by
 subst hB
 have b1 : Below W.heap.size W (W.alloc (.cells src 69)) := (Below.refl _ _).alloc (Nat.le_refl _) _
 have b2 : Below (W.alloc (.cells src 69)).heap.size (W.alloc (.cells src 69)) ((W.alloc (.cells src 69)).alloc (.cells #[.slice none 0 0] 114)) := (Below.refl _ _).alloc (Nat.le_refl _) _
 have b3 : Below ((W.alloc (.cells src 69)).alloc (.cells #[.slice none 0 0] 114)).heap.size ((W.alloc (.cells src 69)).alloc (.cells #[.slice none 0 0] 114)) (((W.alloc (.cells src 69)).alloc (.cells #[.slice none 0 0] 114)).alloc (.cells #[.slice none 0 0] 22)) := (Below.refl _ _).alloc (Nat.le_refl _) _
 have s1 := heap_alloc_new W (.cells src 69)
 have s2 := heap_alloc_new (W.alloc (.cells src 69)) (.cells #[.slice none 0 0] 114)
 have s3 := heap_alloc_new ((W.alloc (.cells src 69)).alloc (.cells #[.slice none 0 0] 114)) (.cells #[.slice none 0 0] 22)
 simp only [World.size_alloc] at s2 s3
 have hsz := heap_lt h.res
 exact ⟨((h.step b1).step b2).step b3, ((hk.below b1).below b2).below b3, hgb, hgl, keep_block (keep_block s1 b2) b3, keep_block s2 b3, s3, World.ownsRow_nil _ _ _ _, World.ownsRow_nil _ _ _ _, by simp, hsz, by omega, by omega, by omega⟩
theorem fl_form {W : World} {B T z n : Nat} {v : Value} {xs : List Value} (h : W.ownsRow B T z v n xs) (hn : 0 < n) : ∃ g cap, v = .slice (some ⟨g, 0, none⟩) n cap ∧ B ≤ g := by
 rcases h.2 with ⟨_, h0⟩ | ⟨g, cap, cur, rfl, hg, _⟩
 ·omega
 ·exact ⟨g, cap, rfl, hg⟩
set_option linter.unusedVariables false in
set_option maxHeartbeats 8000000 in
set_option maxRecDepth 100000 in
theorem sortBy_fn (r s c b g C gi L Ci gk Ck : Nat) (k : Int) (qs ks : List Rat) (w : World) (hk : k = 1 ∨ k = -1) (h1 : 1 ≤ r) (h30 : r ≤ 30) (h2 : 1 ≤ s) (hs9 : s ≤ 100) (hL : r * s = L) (hq : qs.length = L) (hkl : ks.length = r) (h9 : L ≤ 1000) (hLC : L ≤ Ci) (hfk : ∀ q ∈ ks, fits q = true) (hke : ∀ x y, cmpR (ks.getD x 0) (ks.getD y 0) * k = Mt.cfS qs s c k x y) (ha : ArgsAt w b (some ⟨g, 0, none⟩) 3 C 0) (hv : ValsAt w g 0 [arrVal' (r : Int) (s : Int) gi L Ci, arrVal' (r : Int) 1 gk r Ck, numVal' ((k : Int) : Rat)]) (hav : ValsAt w gi 0 (numVals qs)) (hkv : ValsAt w gk 0 (numVals ks)) (hne : g ≠ b) (hgi : gi ≠ b) (hgk : gk ≠ b) (hE : Env w) (hP : Past b) :
  Calls Tryz.prog 68 #[.pointer (some ⟨b, 0, none⟩)] w fun e w' => ∃ lg cap, e = .returned (.agg #[.int .i64 5, .string { data := #[] }, .string { data := #[] }, .string { data := #[] }, .bool false, .int .i64 0, .int .i64 (r : Int), .int .i64 (s : Int), .slice (some ⟨lg, 0, none⟩) L cap]) ∧ ValsAt w' lg 0 (numVals (rowsL qs s (sortL (Mt.cfS qs s c k) r))) ∧ (w.heap.size ≤ lg ∧ L ≤ cap) ∧ w.grownBy w' (some b) := by
 have h0L : 0 < L := by rw [← hL]; exact Nat.mul_pos h1 h2
 obtain ⟨vs, hvs⟩ : ∃ vs, [arrVal' (r : Int) (s : Int) gi L Ci, arrVal' (r : Int) 1 gk r Ck, numVal' ((k : Int) : Rat)] = vs := ⟨_, rfl⟩
 have hvl : vs.length = 3 := by rw [← hvs]; rfl
 rw [hvs] at hv
 have hgl : gk < w.heap.size := cell_lt (hkv.at 0 (by rw [numVals_len, hkl]; omega)).1
 have HI := Lib.hid (IxI.start (gi := gi) (qs := qs) (by rw [hvl]; exact ha) hv (by omega) hav (by omega) (by omega) (by omega) hne hgi hE hP)
 have HK := Lib.hid (hkv.below ((Below.refl _ _).alloc (Nat.le_refl _) (.cells #[.int .i64 0, .string { data := #[] }, .string { data := #[] }, .string { data := #[] }, .bool false, .int .i64 0, .int .i64 0, .int .i64 0, .slice none 0 0] 27)))
 have TV0 := Lib.hid (fun W (h : IxI w b g C vs gi qs 0 W) (hk : ValsAt W gk 0 (numVals ks)) => value_two h hk hgk hgl (r : Int) (s : Int) Ci (by omega) (by subst hvs; rw [hq]; rfl))
 have HV1 := Lib.hid (show ∀ h : 1 < vs.length, vs[1] = arrVal' (r : Int) 1 gk r Ck from fun h => by subst hvs; rfl)
 have HV2 := Lib.hid (show ∀ h : 2 < vs.length, vs[2] = numVal' ((k : Int) : Rat) from fun h => by subst hvs; rfl)
 have HVL := Lib.hid hvl
 have TG := Lib.hid (fun W => grid_arr (r : Int) (s : Int) gi L Ci W)
 have TG2 := Lib.hid (fun W => grid_arr (r : Int) 1 gk r Ck W)
 unfold arrC gridC at TG TG2
 rw [hq] at TV0
 have HQ := Lib.hid hq
 have HRS := Lib.hid hL
 have HFIT := Lib.hid hfk
 have HKE := Lib.hid hke
 have HKL := Lib.hid hkl
 have HGK := Lib.hid (And.intro hgk hgl)
 have hka : k.natAbs ≤ 1000000 := by rcases hk with e | e <;> rw [e] <;> decide
 obtain ⟨i0, hi0', hz0, hz1, hz2⟩ := info_arr
 obtain ⟨j0, hj0', hy0, hy1, hy2⟩ := info_int
 clear ha hv hav hkv hne hgi hgk hgl hE hP hq hL hvs hvl hfk hke hkl
 go_enter Tryz.func68, Tryz.ntmps68
 go_wp2_with fail
 refine (TV0.out _ HI.out HK.out).mono ?_
 rintro e w1 ⟨rfl, hI, hK⟩
 replace HI := Lib.hid hI
 replace HK := Lib.hid hK
 clear hI hK
 go_wp2_with fail
 refine (TG.out _).mono ?_
 rintro e w2 ⟨rfl, hb⟩
 replace HI := Lib.hid (HI.out.step hb)
 replace HK := Lib.hid (HK.out.below hb)
 clear hb
 have L3 := Lib.hid (heap_lt HI.out.res)
 have HST := Lib.hid (SbI.start (B3 := w2.heap.size) HI.out HK.out HGK.out.1 HGK.out.2 #[.int .i64 (r : Int), .int .i64 (s : Int), .slice (some ⟨gi, 0, none⟩) L Ci])
 obtain ⟨W1, hW1⟩ : ∃ Z, ((w2.alloc (.cells #[.int .i64 (r : Int), .int .i64 (s : Int), .slice (some ⟨gi, 0, none⟩) L Ci] 69)).alloc (.cells #[.slice none 0 0] 114)).alloc (.cells #[.slice none 0 0] 22) = Z := ⟨_, rfl⟩
 rw [hW1] at HST
 have EW := Lib.hid hW1
 obtain ⟨B3, hB3⟩ : ∃ B, w2.heap.size = B := ⟨_, rfl⟩
 obtain ⟨BL, hBL⟩ : ∃ B, w2.heap.size + 1 = B := ⟨_, rfl⟩
 obtain ⟨BW, hBW⟩ : ∃ B, w2.heap.size + 1 + 1 = B := ⟨_, rfl⟩
 obtain ⟨BB, hBB⟩ : ∃ B, w2.heap.size + 1 + 1 + 1 = B := ⟨_, rfl⟩
 have E3 := Lib.hid hB3
 have EL := Lib.hid hBL
 have EWW := Lib.hid hBW
 rw [hBB, hBW, hBL, hB3] at HST
 clear hW1 hB3 hBL hBW hBB HI HK
 go_upto_region 4 with fail
 rw [EW.out, EWW.out, EL.out, E3.out]
 clear EW EWW EL E3 L3
 refine wp_loop_rounds 2 ?_
 rw [rounds_succ]
 go_wp2_with fail
 refine HST.out.more.mono ?_
 rintro e w3 ⟨rfl, hI⟩
 replace HST := Lib.hid hI
 clear hI
 have dm1 : decide (1 < vs.length) = true := decide_eq_true (by have := HVL.out; omega)
 rw [dm1]
 go_upto_region 5 with fail
 go_cut [] (fun wx => ∃ LB cL, SbI w b g C vs gi qs gk ks B3 BL BW BB #[.int .i64 (r : Int), .int .i64 (s : Int), .slice (some ⟨gi, 0, none⟩) L Ci] (.slice (some ⟨LB, 0, none⟩) 1 cL) (.slice (some ⟨LB, 0, none⟩) 1 cL) 1 [.int .i64 (r : Int), .int .i64 1, .slice (some ⟨gk, 0, none⟩) r Ck] (.slice none 0 0) (.slice none 0 0) 0 [] 2 wx)
 case first =>
  refine wp_region_all 7 [0, 1, 2, 3, 4, 5, 6] rfl (by kernel_rfl) rfl rfl ?_
  refine rest_two 0 1 ⟨some 15, _, _, _, _, _⟩ ⟨some 16, _, _, _, _, _⟩ rfl rfl (by kernel_rfl) rfl rfl (fun K' hK => ?_) (fun K' hK => ?_)
  ·skip
   have x9 := Lib.cell_of_heap HST.out.hl 0
   go_simp
   clear x9
   refine hK.out _ _ ?_
   refine rest_one 1 ⟨some 16, _, _, _, _, _⟩ rfl (by kernel_rfl) rfl (fun K' hK => ?_)
   go_simp
   refine hK.out _ _ ?_
   refine rest_one 2 ⟨some 17, _, _, _, _, _⟩ rfl (by kernel_rfl) rfl (fun K' hK => ?_)
   go_simp
   go_at_call 46
   refine (HST.out.step (below_drewN (Below.refl _ _) 1) |>.value (r : Int) 1 gk r Ck (by have := HVL.out; omega) (HV1.out _)).mono ?_
   rintro e w4 ⟨rfl, hI⟩
   have HS4 := Lib.hid hI
   clear hI
   refine hK.out _ _ ?_
   refine rest_one 3 ⟨some 18, _, _, _, _, _⟩ rfl (by kernel_rfl) rfl (fun K' hK => ?_)
   go_simp
   go_at_call 45
   refine (TG2.out _).mono ?_
   rintro e w5 ⟨rfl, hb⟩
   have HS5 := Lib.hid (HS4.out.step hb)
   clear hb
   refine hK.out _ _ ?_
   refine rest_one 4 ⟨some 19, _, _, _, _, _⟩ rfl (by kernel_rfl) rfl (fun K' hK => ?_)
   go_simp
   refine hK.out _ _ ?_
   refine rest_one 5 ⟨some 20, _, _, _, _, _⟩ rfl (by kernel_rfl) rfl (fun K' hK => ?_)
   have HS6 := Lib.hid (HS5.out.step ((Below.refl w5.heap.size w5).alloc (Nat.le_refl _) (.cells #[.int .i64 (r : Int), .int .i64 1, .slice (some ⟨gk, 0, none⟩) r Ck] 69)))
   have HNW := Lib.hid (World.news_of_block (cs := #[.int .i64 (r : Int), .int .i64 1, .slice (some ⟨gk, 0, none⟩) r Ck]) (t := 69) (fr := (0, 0)) (heap_alloc_new w5 (.cells #[.int .i64 (r : Int), .int .i64 1, .slice (some ⟨gk, 0, none⟩) r Ck] 69)))
   refine step_append_rowx rfl _ _ 114 rfl BB 69 i0 _ 3 40 Tryz.underlying114 hi0' hz0 hz1 hz2 rfl (by decide) (.slice none 0 0) 0 [] (by simp [Act.eval, Act.put]) HS6.out.ol ⟨w5.heap.size, 0, none⟩ 1 1 [.int .i64 (r : Int), .int .i64 1, .slice (some ⟨gk, 0, none⟩) r Ck] (by simp [Act.eval, Act.put]) rfl HNW.out (by simp [Value.oneCell']) (by unfold maxLen; omega) (by omega) HS6.out.size ?_
   intro v5 w7 hown5 hgrow5
   obtain ⟨a5, c5, hu5⟩ := owns_form hown5
   subst hu5
   have HS7 := Lib.hid (HS6.out.pushL rfl hown5 hgrow5)
   clear hown5 hgrow5
   refine hK.out _ _ ?_
   refine rest_one 6 ⟨none, _, _, _, _, _⟩ rfl (by kernel_rfl) rfl (fun K' hK => ?_)
   have xl := Lib.cell_of_heap HS7.out.hl 0
   have fl := Lib.frozen_of_heap HS7.out.hl 0
   go_simp
   clear xl fl
   refine hK.out _ _ ?_
   have HS8 := Lib.hid HS7.out.storeL
   refine rest_end ?_
   try go_wp2
   go_meet
   case rel =>
    obtain ⟨LB, cL, e, _⟩ := fl_form HS8.out.ol (by decide)
    cases e
    exact ⟨_, _, HS8.out⟩
  ·skip
   go_simp
   refine hK.out _ _ ?_
   refine rest_two 0 2 ⟨some 15, _, _, _, _, _⟩ ⟨some 17, _, _, _, _, _⟩ rfl rfl (by kernel_rfl) rfl rfl (fun K' hK => ?_) (fun K' hK => ?_)
   ·skip
    have x9 := Lib.cell_of_heap HST.out.hl 0
    go_simp
    clear x9
    refine hK.out _ _ ?_
    refine rest_one 2 ⟨some 17, _, _, _, _, _⟩ rfl (by kernel_rfl) rfl (fun K' hK => ?_)
    go_simp
    go_at_call 46
    refine (HST.out.step (below_drewN (Below.refl _ _) 1) |>.value (r : Int) 1 gk r Ck (by have := HVL.out; omega) (HV1.out _)).mono ?_
    rintro e w4 ⟨rfl, hI⟩
    have HS4 := Lib.hid hI
    clear hI
    refine hK.out _ _ ?_
    refine rest_one 3 ⟨some 18, _, _, _, _, _⟩ rfl (by kernel_rfl) rfl (fun K' hK => ?_)
    go_simp
    go_at_call 45
    refine (TG2.out _).mono ?_
    rintro e w5 ⟨rfl, hb⟩
    have HS5 := Lib.hid (HS4.out.step hb)
    clear hb
    refine hK.out _ _ ?_
    refine rest_one 4 ⟨some 19, _, _, _, _, _⟩ rfl (by kernel_rfl) rfl (fun K' hK => ?_)
    go_simp
    refine hK.out _ _ ?_
    refine rest_one 5 ⟨some 20, _, _, _, _, _⟩ rfl (by kernel_rfl) rfl (fun K' hK => ?_)
    have HS6 := Lib.hid (HS5.out.step ((Below.refl w5.heap.size w5).alloc (Nat.le_refl _) (.cells #[.int .i64 (r : Int), .int .i64 1, .slice (some ⟨gk, 0, none⟩) r Ck] 69)))
    have HNW := Lib.hid (World.news_of_block (cs := #[.int .i64 (r : Int), .int .i64 1, .slice (some ⟨gk, 0, none⟩) r Ck]) (t := 69) (fr := (0, 0)) (heap_alloc_new w5 (.cells #[.int .i64 (r : Int), .int .i64 1, .slice (some ⟨gk, 0, none⟩) r Ck] 69)))
    refine step_append_rowx rfl _ _ 114 rfl BB 69 i0 _ 3 40 Tryz.underlying114 hi0' hz0 hz1 hz2 rfl (by decide) (.slice none 0 0) 0 [] (by simp [Act.eval, Act.put]) HS6.out.ol ⟨w5.heap.size, 0, none⟩ 1 1 [.int .i64 (r : Int), .int .i64 1, .slice (some ⟨gk, 0, none⟩) r Ck] (by simp [Act.eval, Act.put]) rfl HNW.out (by simp [Value.oneCell']) (by unfold maxLen; omega) (by omega) HS6.out.size ?_
    intro v5 w7 hown5 hgrow5
    obtain ⟨a5, c5, hu5⟩ := owns_form hown5
    subst hu5
    have HS7 := Lib.hid (HS6.out.pushL rfl hown5 hgrow5)
    clear hown5 hgrow5
    refine hK.out _ _ ?_
    refine rest_one 6 ⟨none, _, _, _, _, _⟩ rfl (by kernel_rfl) rfl (fun K' hK => ?_)
    have xl := Lib.cell_of_heap HS7.out.hl 0
    have fl := Lib.frozen_of_heap HS7.out.hl 0
    go_simp
    clear xl fl
    refine hK.out _ _ ?_
    have HS8 := Lib.hid HS7.out.storeL
    refine rest_end ?_
    try go_wp2
    go_meet
    case rel =>
     obtain ⟨LB, cL, e, _⟩ := fl_form HS8.out.ol (by decide)
     cases e
     exact ⟨_, _, HS8.out⟩
   ·skip
    go_simp
    go_at_call 46
    refine (HST.out.step (below_drewN (Below.refl _ _) 1) |>.value (r : Int) 1 gk r Ck (by have := HVL.out; omega) (HV1.out _)).mono ?_
    rintro e w4 ⟨rfl, hI⟩
    have HS4 := Lib.hid hI
    clear hI
    refine hK.out _ _ ?_
    refine rest_two 0 3 ⟨some 15, _, _, _, _, _⟩ ⟨some 18, _, _, _, _, _⟩ rfl rfl (by kernel_rfl) rfl rfl (fun K' hK => ?_) (fun K' hK => ?_)
    ·skip
     have x9 := Lib.cell_of_heap HS4.out.hl 0
     go_simp
     clear x9
     refine hK.out _ _ ?_
     refine rest_one 3 ⟨some 18, _, _, _, _, _⟩ rfl (by kernel_rfl) rfl (fun K' hK => ?_)
     go_simp
     go_at_call 45
     refine (TG2.out _).mono ?_
     rintro e w5 ⟨rfl, hb⟩
     have HS5 := Lib.hid (HS4.out.step hb)
     clear hb
     refine hK.out _ _ ?_
     refine rest_one 4 ⟨some 19, _, _, _, _, _⟩ rfl (by kernel_rfl) rfl (fun K' hK => ?_)
     go_simp
     refine hK.out _ _ ?_
     refine rest_one 5 ⟨some 20, _, _, _, _, _⟩ rfl (by kernel_rfl) rfl (fun K' hK => ?_)
     have HS6 := Lib.hid (HS5.out.step ((Below.refl w5.heap.size w5).alloc (Nat.le_refl _) (.cells #[.int .i64 (r : Int), .int .i64 1, .slice (some ⟨gk, 0, none⟩) r Ck] 69)))
     have HNW := Lib.hid (World.news_of_block (cs := #[.int .i64 (r : Int), .int .i64 1, .slice (some ⟨gk, 0, none⟩) r Ck]) (t := 69) (fr := (0, 0)) (heap_alloc_new w5 (.cells #[.int .i64 (r : Int), .int .i64 1, .slice (some ⟨gk, 0, none⟩) r Ck] 69)))
     refine step_append_rowx rfl _ _ 114 rfl BB 69 i0 _ 3 40 Tryz.underlying114 hi0' hz0 hz1 hz2 rfl (by decide) (.slice none 0 0) 0 [] (by simp [Act.eval, Act.put]) HS6.out.ol ⟨w5.heap.size, 0, none⟩ 1 1 [.int .i64 (r : Int), .int .i64 1, .slice (some ⟨gk, 0, none⟩) r Ck] (by simp [Act.eval, Act.put]) rfl HNW.out (by simp [Value.oneCell']) (by unfold maxLen; omega) (by omega) HS6.out.size ?_
     intro v5 w7 hown5 hgrow5
     obtain ⟨a5, c5, hu5⟩ := owns_form hown5
     subst hu5
     have HS7 := Lib.hid (HS6.out.pushL rfl hown5 hgrow5)
     clear hown5 hgrow5
     refine hK.out _ _ ?_
     refine rest_one 6 ⟨none, _, _, _, _, _⟩ rfl (by kernel_rfl) rfl (fun K' hK => ?_)
     have xl := Lib.cell_of_heap HS7.out.hl 0
     have fl := Lib.frozen_of_heap HS7.out.hl 0
     go_simp
     clear xl fl
     refine hK.out _ _ ?_
     have HS8 := Lib.hid HS7.out.storeL
     refine rest_end ?_
     try go_wp2
     go_meet
     case rel =>
      obtain ⟨LB, cL, e, _⟩ := fl_form HS8.out.ol (by decide)
      cases e
      exact ⟨_, _, HS8.out⟩
    ·skip
     go_simp
     go_at_call 45
     refine (TG2.out _).mono ?_
     rintro e w5 ⟨rfl, hb⟩
     have HS5 := Lib.hid (HS4.out.step hb)
     clear hb
     refine hK.out _ _ ?_
     refine rest_two 0 4 ⟨some 15, _, _, _, _, _⟩ ⟨some 19, _, _, _, _, _⟩ rfl rfl (by kernel_rfl) rfl rfl (fun K' hK => ?_) (fun K' hK => ?_)
     ·skip
      have x9 := Lib.cell_of_heap HS5.out.hl 0
      go_simp
      clear x9
      refine hK.out _ _ ?_
      refine rest_one 4 ⟨some 19, _, _, _, _, _⟩ rfl (by kernel_rfl) rfl (fun K' hK => ?_)
      go_simp
      refine hK.out _ _ ?_
      refine rest_one 5 ⟨some 20, _, _, _, _, _⟩ rfl (by kernel_rfl) rfl (fun K' hK => ?_)
      have HS6 := Lib.hid (HS5.out.step ((Below.refl w5.heap.size w5).alloc (Nat.le_refl _) (.cells #[.int .i64 (r : Int), .int .i64 1, .slice (some ⟨gk, 0, none⟩) r Ck] 69)))
      have HNW := Lib.hid (World.news_of_block (cs := #[.int .i64 (r : Int), .int .i64 1, .slice (some ⟨gk, 0, none⟩) r Ck]) (t := 69) (fr := (0, 0)) (heap_alloc_new w5 (.cells #[.int .i64 (r : Int), .int .i64 1, .slice (some ⟨gk, 0, none⟩) r Ck] 69)))
      refine step_append_rowx rfl _ _ 114 rfl BB 69 i0 _ 3 40 Tryz.underlying114 hi0' hz0 hz1 hz2 rfl (by decide) (.slice none 0 0) 0 [] (by simp [Act.eval, Act.put]) HS6.out.ol ⟨w5.heap.size, 0, none⟩ 1 1 [.int .i64 (r : Int), .int .i64 1, .slice (some ⟨gk, 0, none⟩) r Ck] (by simp [Act.eval, Act.put]) rfl HNW.out (by simp [Value.oneCell']) (by unfold maxLen; omega) (by omega) HS6.out.size ?_
      intro v5 w7 hown5 hgrow5
      obtain ⟨a5, c5, hu5⟩ := owns_form hown5
      subst hu5
      have HS7 := Lib.hid (HS6.out.pushL rfl hown5 hgrow5)
      clear hown5 hgrow5
      refine hK.out _ _ ?_
      refine rest_one 6 ⟨none, _, _, _, _, _⟩ rfl (by kernel_rfl) rfl (fun K' hK => ?_)
      have xl := Lib.cell_of_heap HS7.out.hl 0
      have fl := Lib.frozen_of_heap HS7.out.hl 0
      go_simp
      clear xl fl
      refine hK.out _ _ ?_
      have HS8 := Lib.hid HS7.out.storeL
      refine rest_end ?_
      try go_wp2
      go_meet
      case rel =>
       obtain ⟨LB, cL, e, _⟩ := fl_form HS8.out.ol (by decide)
       cases e
       exact ⟨_, _, HS8.out⟩
     ·skip
      go_simp
      refine hK.out _ _ ?_
      refine rest_one 0 ⟨some 15, _, _, _, _, _⟩ rfl (by kernel_rfl) rfl (fun K' hK => ?_)
      have x9 := Lib.cell_of_heap (HS5.out.step ((Below.refl w5.heap.size w5).alloc (Nat.le_refl _) (.cells #[.int .i64 (r : Int), .int .i64 1, .slice (some ⟨gk, 0, none⟩) r Ck] 69))).hl 0
      go_simp
      clear x9
      refine hK.out _ _ ?_
      refine rest_one 5 ⟨some 20, _, _, _, _, _⟩ rfl (by kernel_rfl) rfl (fun K' hK => ?_)
      have HS6 := Lib.hid (HS5.out.step ((Below.refl w5.heap.size w5).alloc (Nat.le_refl _) (.cells #[.int .i64 (r : Int), .int .i64 1, .slice (some ⟨gk, 0, none⟩) r Ck] 69)))
      have HNW := Lib.hid (World.news_of_block (cs := #[.int .i64 (r : Int), .int .i64 1, .slice (some ⟨gk, 0, none⟩) r Ck]) (t := 69) (fr := (0, 0)) (heap_alloc_new w5 (.cells #[.int .i64 (r : Int), .int .i64 1, .slice (some ⟨gk, 0, none⟩) r Ck] 69)))
      refine step_append_rowx rfl _ _ 114 rfl BB 69 i0 _ 3 40 Tryz.underlying114 hi0' hz0 hz1 hz2 rfl (by decide) (.slice none 0 0) 0 [] (by simp [Act.eval, Act.put]) HS6.out.ol ⟨w5.heap.size, 0, none⟩ 1 1 [.int .i64 (r : Int), .int .i64 1, .slice (some ⟨gk, 0, none⟩) r Ck] (by simp [Act.eval, Act.put]) rfl HNW.out (by simp [Value.oneCell']) (by unfold maxLen; omega) (by omega) HS6.out.size ?_
      intro v5 w7 hown5 hgrow5
      obtain ⟨a5, c5, hu5⟩ := owns_form hown5
      subst hu5
      have HS7 := Lib.hid (HS6.out.pushL rfl hown5 hgrow5)
      clear hown5 hgrow5
      refine hK.out _ _ ?_
      refine rest_one 6 ⟨none, _, _, _, _, _⟩ rfl (by kernel_rfl) rfl (fun K' hK => ?_)
      have xl := Lib.cell_of_heap HS7.out.hl 0
      have fl := Lib.frozen_of_heap HS7.out.hl 0
      go_simp
      clear xl fl
      refine hK.out _ _ ?_
      have HS8 := Lib.hid HS7.out.storeL
      refine rest_end ?_
      try go_wp2
      go_meet
      case rel =>
       obtain ⟨LB, cL, e, _⟩ := fl_form HS8.out.ol (by decide)
       cases e
       exact ⟨_, _, HS8.out⟩
 case rest =>
  obtain ⟨LB, cL, hI⟩ := hcut
  replace HST := Lib.hid hI
  clear hI
  go_wp2_with fail
  refine HST.out.more.mono ?_
  rintro e w3 ⟨rfl, hI⟩
  replace HST := Lib.hid hI
  clear hI
  have dm2 : decide (2 < vs.length) = true := decide_eq_true (by have := HVL.out; omega)
  rw [dm2]
  go_wp2_with fail
  refine (HST.out.whole k (by have := HVL.out; omega) (HV2.out _) hka).mono ?_
  rintro e w4 ⟨rfl, hI⟩
  replace HST := Lib.hid hI
  clear hI
  have HS6 := Lib.hid (HST.out.step ((Below.refl w4.heap.size w4).alloc (Nat.le_refl _) (.cells #[.int .i64 k] 3)))
  have HNW := Lib.hid (World.news_of_block (cs := #[.int .i64 k]) (t := 3) (fr := (0, 0)) (heap_alloc_new w4 (.cells #[.int .i64 k] 3)))
  have xw := Lib.cell_of_heap HST.out.hw 0
  go_wp2_with (at_builtin; refine wpList_append_own _ rfl _ _ 22 rfl BB 3 j0 _ 1 8 Tryz.underlying22 hj0' hy0 hy1 hy2 rfl (by decide) (.slice none 0 0) 0 [] rfl HS6.out.ow ⟨w4.heap.size, 0, none⟩ 1 1 [.int .i64 k] rfl rfl HNW.out (by simp [Value.oneCell']) (by unfold maxLen; omega) (by omega) HS6.out.size ?_)
  intro v5 w7 hown5 hgrow5 _
  have HS7 := Lib.hid (HS6.out.pushW rfl hown5 hgrow5)
  clear hown5 hgrow5 xw
  obtain ⟨WB, cW, e, _⟩ := fl_form HS7.out.ow (by decide)
  subst e
  replace HST := Lib.hid HS7.out.storeW
  have xw := Lib.cell_of_heap HS7.out.hw 0
  have fw := Lib.frozen_of_heap HS7.out.hw 0
  clear HS6 HNW
  go_wp2
  clear xw fw HS7
  rw [rounds_succ]
  go_wp2_with fail
  refine HST.out.more.mono ?_
  rintro e w3 ⟨rfl, hI⟩
  replace HST := Lib.hid hI
  clear hI
  have dm3 : decide (3 < vs.length) = false := decide_eq_false (by have := HVL.out; omega)
  rw [dm3]
  go_upto_region 10 with fail
  have xl := Lib.cell_of_heap HST.out.hl 0
  have l0 : w3.cell? ⟨LB, 0, none⟩ = some (.int .i64 (r : Int)) := HST.out.ol.cellAt 0 (by decide)
  have l1 : w3.cell? ⟨LB, 1, none⟩ = some (.int .i64 1) := HST.out.ol.cellAt 1 (by decide)
  obtain ⟨⟨x0, x1, x2⟩, _⟩ := three_at HST.out.h3
  go_quiet (fail)
  clear xl l0 l1 x0 x1 x2
  replace HST := Lib.hid (HST.out.step (below_drewN (Below.refl _ _) nq))
  obtain ⟨W5, hW5⟩ : ∃ Z, w3.drewN nq = Z := ⟨_, rfl⟩
  rw [hW5] at HST ⊢
  clear hW5
  have xl := Lib.cell_of_heap HST.out.hl 0
  have l0 : W5.cell? ⟨LB, 0, none⟩ = some (.int .i64 (r : Int)) := HST.out.ol.cellAt 0 (by decide)
  have l1 : W5.cell? ⟨LB, 1, none⟩ = some (.int .i64 1) := HST.out.ol.cellAt 1 (by decide)
  have l2 : W5.cell? ⟨LB, 2, none⟩ = some (.slice (some ⟨gk, 0, none⟩) r Ck) := HST.out.ol.cellAt 2 (by decide)
  go_wp2_with fail
  refine wp_loop_rounds 2 ?_
  rw [rounds_succ]
  replace HST := Lib.hid (HST.out.step ((Below.refl W5.heap.size W5).alloc (Nat.le_refl _) (.cells #[.int .i64 (r : Int), .int .i64 1, .slice (some ⟨gk, 0, none⟩) r Ck] 69)))
  have H9 := Lib.hid (heap_alloc_new W5 (.cells #[.int .i64 (r : Int), .int .i64 1, .slice (some ⟨gk, 0, none⟩) r Ck] 69))
  obtain ⟨W6, hW6⟩ : ∃ Z, W5.alloc (.cells #[.int .i64 (r : Int), .int .i64 1, .slice (some ⟨gk, 0, none⟩) r Ck] 69) = Z := ⟨_, rfl⟩
  rw [hW6] at HST H9
  obtain ⟨B9, hB9⟩ : ∃ Z, W5.heap.size = Z := ⟨_, rfl⟩
  rw [hB9] at H9
  have EW := Lib.hid hW6
  have EB := Lib.hid hB9
  clear hW6 hB9
  go_upto_region 16 with fail
  rw [EW.out, EB.out]
  clear xl l0 l1 l2 EW EB
  obtain ⟨⟨y0, y1, y2⟩, _⟩ := three_at H9.out
  obtain ⟨⟨x0, x1, x2⟩, _⟩ := three_at HST.out.h3
  have xw := Lib.cell_of_heap HST.out.hw 0
  have k0 : W6.cell? ⟨WB, 0, none⟩ = some (.int .i64 k) := HST.out.ow.cellAt 0 (by decide)
  go_wp2_with fail
  refine (stop_no 2 _).mono ?_
  rintro e w8 ⟨rfl, hw⟩
  replace hw := hw.symm
  subst hw
  go_wp2_with fail
  refine (way_ok k hk _).mono ?_
  rintro e w8 ⟨rfl, hw⟩
  replace hw := hw.symm
  subst hw
  go_wp2
  rw [rounds_succ]
  have hmf : ∀ (fn : Fn) (first cap : Array Value) (w : World), (Instr.makeFunc fn first cap).run Tryz.prog w = .ok (.func fn first cap) w := fun _ _ _ _ => rfl
  have TS := Lib.hid (sorted_arr r s gi L Ci 144 #[.pointer (some ⟨BL, 0, none⟩), .pointer (some ⟨BW, 0, none⟩)] (Mt.cfS qs s c k) qs W6 h1 h30 h2 HRS.out HQ.out hLC h9 (cfS_ord qs s c k hk) (fun _ _ => by kernel_rfl)
   (fun W' hb x y hx hy => by
    have h := HST.out.step hb
    have := Mt.sortBy1_any r x y gk Ck BL BW LB cL WB cW k ks W' hk HKL.out (by omega) HFIT.out hx hy h.hl (h.ol.cellAt 0 (by decide)) (h.ol.cellAt 1 (by decide)) (h.ol.cellAt 2 (by decide)) h.hw (h.ow.cellAt 0 (by decide)) h.key h.ix.env
    rw [HKE.out] at this
    exact this) HST.out.ix.arr)
  unfold gridC at TS
  go_wp2_with fail
  refine TS.out.mono ?_
  rintro e w7 ⟨lg, cap, rfl, hb, hva, hlg, hcp⟩
  have HVA := Lib.hid hva
  have LB3 := Lib.hid (show w.heap.size < B3 from HST.out.o1)
  have HLG := Lib.hid (show B3 < lg ∧ L ≤ cap from ⟨by have := HST.out.size; have := HST.out.o2; have := HST.out.o3; have := HST.out.o4; omega, hcp⟩)
  have H3 := Lib.hid (keep_block HST.out.h3 hb)
  have HI := Lib.hid (HST.out.ix.step hb)
  clear hva hlg hcp hb x0 x1 x2 y0 y1 y2 xw k0 hmf HST H9
  obtain ⟨⟨x0, x1, x2⟩, y0, y1, y2⟩ := three_at H3.out
  have HVB := Lib.hid (vals_other HVA.out (set3_other w7 B3 (.int .i64 (r : Int)) (.int .i64 (s : Int)) (.slice (some ⟨lg, 0, none⟩) L cap) (show lg ≠ B3 by have := HLG.out; omega)))
  replace H3 := Lib.hid (set3_at H3.out (.int .i64 (r : Int)) (.int .i64 (s : Int)) (.slice (some ⟨lg, 0, none⟩) L cap))
  replace HI := Lib.hid (HI.out.kept (set3_kept w7 B3 (.int .i64 (r : Int)) (.int .i64 (s : Int)) (.slice (some ⟨lg, 0, none⟩) L cap)) LB3.out)
  clear HVA
  obtain ⟨W8, hW8⟩ : ∃ Z, ((w7.setCell ⟨B3, 0, none⟩ (.int .i64 (r : Int))).setCell ⟨B3, 1, none⟩ (.int .i64 (s : Int))).setCell ⟨B3, 2, none⟩ (.slice (some ⟨lg, 0, none⟩) L cap) = Z := ⟨_, rfl⟩
  rw [hW8] at HVB H3 HI
  have EW8 := Lib.hid hW8
  clear hW8
  have TW := Lib.hid (fun W => value_arr r s (some ⟨lg, 0, none⟩) L cap W h1 (by omega) h2 hs9)
  unfold gridC arrC at TW
  go_upto_region 22 with fail
  rw [EW8.out]
  clear x0 x1 x2 y0 y1 y2
  obtain ⟨⟨x0, x1, x2⟩, _⟩ := three_at H3.out
  go_wp2_with fail
  refine (TW.out _).mono ?_
  rintro e w9 ⟨rfl, hb⟩
  replace HI := Lib.hid (HI.out.step hb)
  replace HVB := Lib.hid (HVB.out.below hb)
  clear hb x0 x1 x2
  have HR := Lib.hid HI.out.res
  obtain ⟨⟨r0, r1, r2, r3, r4, r5, r6, r7, r8⟩, g0, g1, g2, g3, g4, g5, g6, g7, g8⟩ := nine_at HR.out
  have HF := Lib.hid (set9_at HR.out (.int .i64 5) (.string { data := #[] }) (.string { data := #[] }) (.string { data := #[] }) (.bool false) (.int .i64 0) (.int .i64 (r : Int)) (.int .i64 (s : Int)) (.slice (some ⟨lg, 0, none⟩) L cap))
  have HG9 := Lib.hid (kept_set9 HI.out.low (Nat.le_refl _) (.int .i64 5) (.string { data := #[] }) (.string { data := #[] }) (.string { data := #[] }) (.bool false) (.int .i64 0) (.int .i64 (r : Int)) (.int .i64 (s : Int)) (.slice (some ⟨lg, 0, none⟩) L cap))
  obtain ⟨⟨z0, z1, z2, z3, z4, z5, z6, z7, z8⟩, _⟩ := nine_at HF.out
  have HVC := Lib.hid (vals_other HVB.out (set9_other w9 w.heap.size (.int .i64 5) (.string { data := #[] }) (.string { data := #[] }) (.string { data := #[] }) (.bool false) (.int .i64 0) (.int .i64 (r : Int)) (.int .i64 (s : Int)) (.slice (some ⟨lg, 0, none⟩) L cap) (show lg ≠ w.heap.size by have := HLG.out; have := LB3.out; omega)))
  go_wp2
  refine bodyPost_ret (v := .agg #[.int .i64 5, .string { data := #[] }, .string { data := #[] }, .string { data := #[] }, .bool false, .int .i64 0, .int .i64 (r : Int), .int .i64 (s : Int), .slice (some ⟨lg, 0, none⟩) L cap]) (by simp [results, Tryz.results68, go_sem, z0, z1, z2, z3, z4, z5, z6, z7, z8]) rfl ⟨lg, cap, rfl, HVC.out, ⟨by have := HLG.out; have := LB3.out; omega, HLG.out.2⟩, HG9.out⟩
end Go.Proofs.YtkghpiaoggljjaaGreatDoor.Num.Fl

/- package value: arrays of numbers whose items begin anywhere in their block: Check, Inside. Conditions: the items are numbers that fit; the tables lie as they are laid. -/
namespace Go.Proofs.YtkghpiaoggljjaaGreatDoor.Num.Off
open Go.RowKit Go.Lib Num

/-- what stays while the items of an array are gone through -/
structure RowI (w : World) (g o : Nat) (qs : List Rat) (W : World) : Prop where
 row : ValsAt W g o (numVals qs)
 env : Env W
 low : Below w.heap.size w W
theorem RowI.step {w W W' : World} {g o : Nat} {qs : List Rat} (h : RowI w g o qs W) (hb : Below W.heap.size W W') : RowI w g o qs W' :=
 ⟨h.row.below hb, h.env.below hb, h.low.trans (hb.mono h.low.size)⟩
/-- the cells of item i -/
theorem item_at {W : World} {g o : Nat} {qs : List Rat} (h : ValsAt W g o (numVals qs)) (i : Nat) (hi : i < qs.length) (q : Rat) (hq : qs[i] = q) :
  W.cell? ⟨g, o + i * 9, none⟩ = some (.int .i64 1) ∧ W.cell? ⟨g, o + i * 9 + 1, none⟩ = some (.string (numS q)) ∧ W.cell? ⟨g, o + i * 9 + 2, none⟩ = some (.string (denS q)) ∧ W.cell? ⟨g, o + i * 9 + 3, none⟩ = some (.string { data := #[] }) ∧ W.cell? ⟨g, o + i * 9 + 4, none⟩ = some (.bool false) ∧ W.cell? ⟨g, o + i * 9 + 5, none⟩ = some (.int .i64 0) ∧ W.cell? ⟨g, o + i * 9 + 6, none⟩ = some (.int .i64 0) ∧ W.cell? ⟨g, o + i * 9 + 7, none⟩ = some (.int .i64 0) ∧ W.cell? ⟨g, o + i * 9 + 8, none⟩ = some (.slice none 0 0) := by
 have hl : i < (numVals qs).length := by rw [numVals_len]; exact hi
 have := h.at i hl
 rw [numVals_at qs i hl, hq] at this
 exact this

set_option maxHeartbeats 4000000 in
set_option maxRecDepth 100000 in
theorem array_ok (qs : List Rat) (r s : Int) (g o C : Nat) (w : World) (hr : 1 ≤ r) (hr9 : r ≤ 1000) (hs : 1 ≤ s) (hs9 : s ≤ 1000) (hrs : r * s = (qs.length : Int)) (hq : ∀ q ∈ qs, fits q = true) (h9 : qs.length ≤ 1000) (hv : ValsAt w g o (numVals qs)) (hE : Env w) :
  Calls Tryz.prog 75 #[.agg #[.int .i64 5, .string { data := #[] }, .string { data := #[] }, .string { data := #[] }, .bool false, .int .i64 0, .int .i64 r, .int .i64 s, .slice (some ⟨g, o, none⟩) qs.length C]] w fun e w' => e = .returned (.int .i64 0) ∧ Below w.heap.size w w' := by
 have hb : Below w.heap.size w (w.alloc (.cells #[.int .i64 5, .string { data := #[] }, .string { data := #[] }, .string { data := #[] }, .bool false, .int .i64 0, .int .i64 r, .int .i64 s, .slice (some ⟨g, o, none⟩) qs.length C] 27)) := (Below.refl _ _).alloc (Nat.le_refl _) _
 have HI0 := Lib.hid (show RowI w g o qs (w.alloc (.cells #[.int .i64 5, .string { data := #[] }, .string { data := #[] }, .string { data := #[] }, .bool false, .int .i64 0, .int .i64 r, .int .i64 s, .slice (some ⟨g, o, none⟩) qs.length C] 27)) from ⟨hv.below hb, hE.below hb, hb⟩)
 have HQ := Lib.hid hq
 have d1 : decide (r < 1) = false := decide_eq_false (by omega)
 have d2 : decide (100000 < r) = false := decide_eq_false (by omega)
 have d3 : decide (s < 1) = false := decide_eq_false (by omega)
 have d4 : decide (100000 < s) = false := decide_eq_false (by omega)
 obtain ⟨L, hL⟩ : ∃ L, qs.length = L := ⟨_, rfl⟩
 have HLL := Lib.hid hL
 rw [hL] at hrs h9 HI0 ⊢
 have d5 : decide (100000 < (L : Int)) = false := decide_eq_false (by omega)
 have hwr : IntKind.i64.wrap (L : Int) = (L : Int) := IntWalk.i64_in _ (by omega)
 clear hb hv hE hq hL
 go_enter Tryz.func75, Tryz.ntmps75
 go_wp2_with fail
 go_loopg [42] L (fun gh v42 wx => ∃ k : Nat, v42 = .int .i64 (k : Int) ∧ k ≤ L ∧ gh = L - k ∧ RowI w g o qs wx)
 case atStart => exact ⟨0, rfl, Nat.zero_le _, rfl, HI0.out⟩
 case round =>
  clear HI0
  obtain ⟨k, rfl, hk, rfl, hti⟩ := hrel
  have HTI := Lib.hid hti
  clear hti hrs hwr
  by_cases hlt : k < L
  ·have hd : decide ((k : Int) < (L : Int)) = true := decide_eq_true (by omega)
   have hd2 : decide (k < L) = true := decide_eq_true hlt
   have hkq : k < qs.length := by rw [HLL.out]; exact hlt
   obtain ⟨q, hqq⟩ : ∃ q, qs[k] = q := ⟨_, rfl⟩
   have hfq : fits q = true := by rw [← hqq]; exact HQ.out _ (List.getElem_mem hkq)
   obtain ⟨c0, c1, c2, c3, c4, c5, c6, c7, c8⟩ := item_at HTI.out.row k hkq q hqq
   have TC := Lib.hid (fun W gg => check_num q W hfq gg)
   have hi0 : (0 : Int) ≤ (k : Int) := by omega
   have hi1 : (k : Int) < (L : Int) := by omega
   clear hfq hkq hqq
   have HTA := Lib.hid (HTI.out.step ((Below.refl wr.heap.size wr).alloc (Nat.le_refl _) (.cells #[.int .i64 1, .string (numS q), .string (denS q), .string { data := #[] }, .bool false, .int .i64 0, .int .i64 0, .int .i64 0, .slice none 0 0] 27)))
   go_wp2_with fail
   refine (TC.out _ HTA.out.env).mono ?_
   rintro e w2 ⟨rfl, hb⟩
   have HT2 := Lib.hid (HTA.out.step hb)
   clear hb c0 c1 c2 c3 c4 c5 c6 c7 c8
   go_wp2
   go_roundg (L - (k + 1))
   case measure => omega
   case rel => exact ⟨k + 1, by go_num, by omega, by omega, HT2.out⟩
  ·have hd : decide ((k : Int) < (L : Int)) = false := decide_eq_false (by omega)
   have hd2 : decide (k < L) = false := decide_eq_false hlt
   clear hlt
   go_wp2
   go_ret
   exact ⟨rfl, HTI.out.low⟩

set_option maxHeartbeats 4000000 in
set_option maxRecDepth 100000 in
theorem check_arr (qs : List Rat) (r s : Int) (g o C : Nat) (w : World) (hr : 1 ≤ r) (hr9 : r ≤ 1000) (hs : 1 ≤ s) (hs9 : s ≤ 1000) (hrs : r * s = (qs.length : Int)) (hq : ∀ q ∈ qs, fits q = true) (h9 : qs.length ≤ 1000) (hv : ValsAt w g o (numVals qs)) (hE : Env w) :
  Calls Tryz.prog 24 #[.agg #[.int .i64 5, .string { data := #[] }, .string { data := #[] }, .string { data := #[] }, .bool false, .int .i64 0, .int .i64 r, .int .i64 s, .slice (some ⟨g, o, none⟩) qs.length C]] w fun e w' => e = .returned (.int .i64 0) ∧ Below w.heap.size w w' := by
 have TA := Lib.hid (fun W hvv gg => array_ok qs r s g o C W hr hr9 hs hs9 hrs hq h9 hvv gg)
 have HX := Lib.hid (heap_alloc_new w (.cells #[.int .i64 5, .string { data := #[] }, .string { data := #[] }, .string { data := #[] }, .bool false, .int .i64 0, .int .i64 r, .int .i64 s, .slice (some ⟨g, o, none⟩) qs.length C] 27))
 have HL := Lib.hid (show Below w.heap.size w (w.alloc (.cells #[.int .i64 5, .string { data := #[] }, .string { data := #[] }, .string { data := #[] }, .bool false, .int .i64 0, .int .i64 r, .int .i64 s, .slice (some ⟨g, o, none⟩) qs.length C] 27)) from (Below.refl _ _).alloc (Nat.le_refl _) _)
 have HE := Lib.hid (hE.below HL.out)
 have HV := Lib.hid (hv.below HL.out)
 have TZ := Lib.hid (fun W => zeros_arr r s (some ⟨g, o, none⟩) qs.length C W)
 obtain ⟨L, hL⟩ : ∃ L, qs.length = L := ⟨_, rfl⟩
 rw [hL] at TA HX HL HE TZ HV ⊢
 clear hE hv hr hr9 hs hs9 hrs hq h9 hL
 go_enter Tryz.func24, Tryz.ntmps24
 go_wp2_with fail
 refine (TZ.out _).mono ?_
 rintro e W1 ⟨rfl, hb⟩
 replace HX := Lib.hid (keep_block HX.out hb)
 replace HE := Lib.hid (HE.out.below hb)
 replace HV := Lib.hid (HV.out.below hb)
 replace HL := Lib.hid (HL.out.trans (hb.mono HL.out.size))
 clear hb
 obtain ⟨⟨x0, x1, x2, x3, x4, x5, x6, x7, x8⟩, _⟩ := nine_at HX.out
 go_wp2_with fail
 refine (TA.out _ HV.out HE.out).mono ?_
 rintro e W2 ⟨rfl, hb⟩
 replace HL := Lib.hid (HL.out.trans (hb.mono HL.out.size))
 clear hb
 go_wp2
 go_ret
 exact ⟨rfl, HL.out⟩

/-- what stays while the items are collected; the row lies ahead of the base -/
structure InI (w : World) (g o : Nat) (qs : List Rat) (v : Value) (done : List Rat) (W : World) : Prop where
 row : ValsAt W g o (numVals qs)
 env : Env W
 low : Below w.heap.size w W
 own : OwnF w.heap.size v done W
theorem vals_other {W W' : World} {g o : Nat} {vs : List Val} (h : ValsAt W g o vs) (ho : W'.heap[g]? = W.heap[g]?) : ValsAt W' g o vs := by
 intro j u hj
 have := h j u hj
 rw [addr_add] at this ⊢
 simp only [World.cell?] at this ⊢
 rw [ho]; exact this
end Go.Proofs.YtkghpiaoggljjaaGreatDoor.Num.Off

/- package flook: index at an array of numbers, no row and a column. Conditions: sizes from 1 on; the numbers lie in memory; the tables lie as they are laid. -/
namespace Go.Proofs.YtkghpiaoggljjaaGreatDoor.Num.Fl
open Go.RowKit Go.Lib Num
attribute [local irreducible] wpOp
set_option linter.unusedVariables false in
/-- what the operations of region 13 yield -/
def idxKs13 (r s c gi L Ci B3 B5 : Nat) (qs : List Rat) : List RK :=
 [.pure (.pointer (some ⟨B3, 0, none⟩)),
  .pure (.int .i64 (r : Int)),
  .pure (.agg #[.int .i64 (r : Int), .int .i64 (s : Int), .slice (some ⟨gi, 0, none⟩) L Ci]),
  .any (TurR B5 r s qs),
  .pure (.int .i64 ((c : Int) + 1)),
  .pure (.int .i64 (c : Int)),
  .any (ColR B5 r s c qs),
  .put 0,
  .put 0]
set_option linter.unusedSimpArgs false in
set_option linter.unusedVariables false in
set_option maxHeartbeats 4000000 in
set_option maxRecDepth 100000 in
theorem index_arr (r s c b g C gi L Ci : Nat) (qs : List Rat) (w : World) (hr : 2 ≤ r) (h2 : 1 ≤ s) (hs9 : s ≤ 100) (hc : c < s) (hL : r * s = L) (hq : qs.length = L) (h9 : L ≤ 1000) (ha : ArgsAt w b (some ⟨g, 0, none⟩) 3 C 0) (hv : ValsAt w g 0 [arrVal' (r : Int) (s : Int) gi L Ci, numVal' ((0 : Int) : Rat), numVal' (((c : Int) + 1 : Int) : Rat)]) (hav : ValsAt w gi 0 (numVals qs)) (hne : g ≠ b) (hgi : gi ≠ b) (hE : Env w) (hP : Past b) :
  Calls Tryz.prog 43 #[.pointer (some ⟨b, 0, none⟩)] w fun e w' => ∃ lg cap, e = .returned (.agg #[.int .i64 5, .string { data := #[] }, .string { data := #[] }, .string { data := #[] }, .bool false, .int .i64 0, .int .i64 (r : Int), .int .i64 1, .slice (some ⟨lg, c * r * 9, none⟩) r cap]) ∧ ValsAt w' lg (c * r * 9) (numVals (colL qs r s c)) ∧ w.heap.size ≤ lg ∧ w.grownBy w' (some b) := by
 have h1 : 1 ≤ r := by omega
 have hr9 : r ≤ 1000 := by
  have : r ≤ r * s := Nat.le_mul_of_pos_right r h2
  omega
 have hsr : s * r = L := by rw [Nat.mul_comm]; exact hL
 have h0L : 0 < L := by rw [← hL]; exact Nat.mul_pos h1 h2
 obtain ⟨vs, hvs⟩ : ∃ vs, [arrVal' (r : Int) (s : Int) gi L Ci, numVal' ((0 : Int) : Rat), numVal' (((c : Int) + 1 : Int) : Rat)] = vs := ⟨_, rfl⟩
 have hvl : vs.length = 3 := by rw [← hvs]; rfl
 rw [hvs] at hv
 have HI := Lib.hid (IxI.start (gi := gi) (qs := qs) (by rw [hvl]; exact ha) hv (by omega) hav (by omega) (by omega) (by omega) hne hgi hE hP)
 have TV0 := Lib.hid (fun W (h : IxI w b g C vs gi qs 0 W) => h.value (r : Int) (s : Int) Ci (by omega) (by subst hvs; rw [hq]; rfl))
 have TV1 := Lib.hid (fun W (h : IxI w b g C vs gi qs 1 W) => h.whole 0 (by omega) (by subst hvs; rfl) (by decide))
 have TV2 := Lib.hid (fun W (h : IxI w b g C vs gi qs 2 W) => h.more (by omega))
 have TV3 := Lib.hid (fun W (h : IxI w b g C vs gi qs 2 W) => h.wholeOr ((c : Int) + 1) 0 (by omega) (by subst hvs; rfl) (by omega))
 have TG := Lib.hid (fun W => grid_arr (r : Int) (s : Int) gi L Ci W)
 unfold arrC gridC at TG
 rw [hq] at TV0
 have HQ := Lib.hid hq
 have HRS := Lib.hid hL
 have HSR := Lib.hid hsr
 have d1 : decide (((c : Int) + 1) < 0) = false := decide_eq_false (by omega)
 have d2 : decide ((r : Int) < 0) = false := decide_eq_false (by omega)
 have d3 : decide ((s : Int) < ((c : Int) + 1)) = false := decide_eq_false (by omega)
 have d4 : decide (0 < ((c : Int) + 1)) = true := decide_eq_true (by omega)
 have hw1 : IntKind.i64.wrap ((c : Int) + 1 - 1) = (c : Int) := by rw [show (c : Int) + 1 - 1 = (c : Int) by omega]; exact IntWalk.i64_in _ (by omega)
 have hw2 : IntKind.i64.wrap (c : Int) = (c : Int) := IntWalk.i64_in _ (by omega)
 clear ha hv hav hne hgi hE hP hq hL hsr hvs hvl
 go_enter Tryz.func43, Tryz.ntmps43
 go_wp2_with fail
 refine (TV0.out _ HI.out).mono ?_
 rintro e w1 ⟨rfl, hI⟩
 replace HI := Lib.hid hI
 clear hI
 go_wp2_with fail
 refine (TG.out _).mono ?_
 rintro e w2 ⟨rfl, hb⟩
 replace HI := Lib.hid (HI.out.step hb)
 clear hb
 have L3 := Lib.hid (heap_lt HI.out.res)
 have H3 := Lib.hid (heap_alloc_new w2 (.cells #[.int .i64 (r : Int), .int .i64 (s : Int), .slice (some ⟨gi, 0, none⟩) L Ci] 69))
 replace HI := Lib.hid (HI.out.step ((Below.refl w2.heap.size w2).alloc (Nat.le_refl _) (.cells #[.int .i64 (r : Int), .int .i64 (s : Int), .slice (some ⟨gi, 0, none⟩) L Ci] 69)))
 obtain ⟨B3, hB3⟩ : ∃ B, w2.heap.size = B := ⟨_, rfl⟩
 obtain ⟨W1, hW1⟩ : ∃ Z, w2.alloc (.cells #[.int .i64 (r : Int), .int .i64 (s : Int), .slice (some ⟨gi, 0, none⟩) L Ci] 69) = Z := ⟨_, rfl⟩
 rw [hW1] at H3 HI
 rw [hB3] at H3 L3
 have EW := Lib.hid hW1
 have EB := Lib.hid hB3
 clear hW1 hB3
 go_upto_region 2 with fail
 rw [EW.out, EB.out]
 go_wp2_with fail
 refine (TV1.out _ HI.out).mono ?_
 rintro e w3 ⟨rfl, hI, hg⟩
 replace H3 := Lib.hid (kept_block H3.out hg (by have := L3.out; have := HI.out.bl; omega))
 replace HI := Lib.hid hI
 clear hI hg
 go_wp2_with fail
 refine (TV2.out _ HI.out).mono ?_
 rintro e w4 ⟨rfl, hI, hb⟩
 replace H3 := Lib.hid (keep_block H3.out hb)
 replace HI := Lib.hid hI
 clear hI hb
 go_wp2_with fail
 refine (TV3.out _ HI.out).mono ?_
 rintro e w5 ⟨rfl, hI, hg⟩
 replace H3 := Lib.hid (kept_block H3.out hg (by have := L3.out; have := HI.out.bl; omega))
 replace HI := Lib.hid hI
 clear hI hg
 go_wp2_with fail
 refine (stop_no 2 _).mono ?_
 rintro e w6 ⟨rfl, hw⟩
 replace hw := hw.symm
 subst hw
 obtain ⟨⟨x0, x1, x2⟩, _⟩ := three_at H3.out
 go_wp2_with fail
 refine (stop_no 3 _).mono ?_
 rintro e w6 ⟨rfl, hw⟩
 replace hw := hw.symm
 subst hw
 clear x0 x1 x2
 have L5 := Lib.hid (heap_lt H3.out)
 go_upto_region 13 with fail
 go_wp2_with fail
 have hok : okB 9 (idxKs13 r s c gi L Ci B3 w5.heap.size qs) = true := by kernel_rfl
 have hla : ∀ (ix : Nat) (kx : RK), (idxKs13 r s c gi L Ci B3 w5.heap.size qs)[ix]? = some kx → kx.lasts := by
  intro ix kx hk
  match ix, hk with
  | 0, hk => have hk := Option.some.inj hk; subst hk; exact trivial
  | 1, hk => have hk := Option.some.inj hk; subst hk; exact trivial
  | 2, hk => have hk := Option.some.inj hk; subst hk; exact trivial
  | 3, hk => have hk := Option.some.inj hk; subst hk; exact (by first | exact turR_lasts | exact colR_lasts)
  | 4, hk => have hk := Option.some.inj hk; subst hk; exact trivial
  | 5, hk => have hk := Option.some.inj hk; subst hk; exact trivial
  | 6, hk => have hk := Option.some.inj hk; subst hk; exact (by first | exact turR_lasts | exact colR_lasts)
  | 7, hk => have hk := Option.some.inj hk; subst hk; exact trivial
  | 8, hk => have hk := Option.some.inj hk; subst hk; exact trivial
  | _ + 9, hk => exact absurd hk (by simp [idxKs13])
 refine wp_region_facts_abs_r (row := none) (w := w5) 7 7 2 9 [7, 8] (idxKs13 r s c gi L Ci B3 w5.heap.size qs) [some 74, some 75, some 76, some 77, some 78, some 79, some 80, some 81, none] [(3, .pointer (some ⟨B3, 0, none⟩)), (6, .int .i64 ((c : Int) + 1))] 92 (by kernel_rfl) (by kernel_rfl) (by kernel_rfl) rfl rfl (by decide) rfl (by kernel_rfl) rfl (Nat.le_of_eq rfl) rfl ?ho [undef, undef, undef, undef, undef, undef, undef, undef, undef] ?h00 (Fs.start rfl rfl) ?hs ?hd
 case ho =>
  intro k x hk
  match k, hk with
  | 0, hk => have hk := Option.some.inj hk; subst hk; rfl
  | 1, hk => have hk := Option.some.inj hk; subst hk; rfl
  | _ + 2, hk => exact absurd hk (by simp)
 case h00 => simp only [putO, layL]
 case hs =>
  rintro A listed vs Wr hF hR i hi hun hpre
  obtain ⟨s0, s1, s2, s3, s4, s5, s6, s7, s8, hvs⟩ := exl_of 9 vs (fun l => vs = l) hF.len rfl
  subst hvs
  have hge := Nat.zero_le i
  rcases Nat.lt_or_ge i 3 with hi | hge
  ·rcases Nat.lt_or_ge i 1 with hi | hge
   ·obtain rfl := eqi hi hge
    have ro3 : A.tmps[3]? = some (.pointer (some ⟨B3, 0, none⟩)) := hR.out 0 _ rfl
    refine step_of ⟨some 74, _, _, _, _, _⟩ rfl (fun K' hK => ?_)
    go_simp
    exact hK.out _ _ ⟨_, hF.pure hok hla hpre rfl (Below.refl _ _), rfl⟩
   rcases Nat.lt_or_ge i 2 with hi | hge
   ·obtain rfl := eqi hi hge
    have p0 := hpre 0 (by kernel_rfl)
    have e0 : s0 = .pointer (some ⟨B3, 0, none⟩) := hF.get 0 _ rfl (.inr p0)
    subst e0
    have r0 : A.tmps[74]? = some (.pointer (some ⟨B3, 0, none⟩)) := hR.own 0 _ _ rfl rfl
    have hcc := (three_at (keep_block H3.out (below_none hF.low))).1
    have cH30 := hcc.1
    have cH31 := hcc.2.1
    have cH32 := hcc.2.2
    clear hcc
    refine step_of ⟨some 75, _, _, _, _, _⟩ rfl (fun K' hK => ?_)
    go_simp
    exact hK.out _ _ ⟨_, hF.pure hok hla hpre rfl (Below.refl _ _), rfl⟩
   obtain rfl := eqi hi hge
   have ro3 : A.tmps[3]? = some (.pointer (some ⟨B3, 0, none⟩)) := hR.out 0 _ rfl
   have hcc := (three_at (keep_block H3.out (below_none hF.low))).1
   have cH30 := hcc.1
   have cH31 := hcc.2.1
   have cH32 := hcc.2.2
   clear hcc
   refine step_of ⟨some 76, _, _, _, _, _⟩ rfl (fun K' hK => ?_)
   go_simp
   exact hK.out _ _ ⟨_, hF.pure hok hla hpre rfl (Below.refl _ _), rfl⟩
  rcases Nat.lt_or_ge i 5 with hi | hge
  ·rcases Nat.lt_or_ge i 4 with hi | hge
   ·obtain rfl := eqi hi hge
    have p2 := hpre 2 (by kernel_rfl)
    have e2 : s2 = .agg #[.int .i64 (r : Int), .int .i64 (s : Int), .slice (some ⟨gi, 0, none⟩) L Ci] := hF.get 2 _ rfl (.inr p2)
    subst e2
    have r2 : A.tmps[76]? = some (.agg #[.int .i64 (r : Int), .int .i64 (s : Int), .slice (some ⟨gi, 0, none⟩) L Ci]) := hR.own 2 _ _ rfl rfl
    refine step_of ⟨some 77, _, _, _, _, _⟩ rfl (fun K' hK => ?_)
    go_simp
    go_at_call 49
    (with_reducible refine (turned_R w5.heap.size r s gi L Ci qs _ h1 h2 HRS.out HQ.out h9 (HI.out.step (below_none hF.low)).arr (below_none hF.low).size).mono ?_)
    rintro e Wq ⟨lq, cq, rfl, hvq, _, hq⟩
    exact hK.out _ _ ⟨_, hF.any hok hla hpre rfl hq ⟨lq, cq, rfl, hvq⟩, rfl⟩
   obtain rfl := eqi hi hge
   have ro6 : A.tmps[6]? = some (.int .i64 ((c : Int) + 1)) := hR.out 1 _ rfl
   refine step_of ⟨some 78, _, _, _, _, _⟩ rfl (fun K' hK => ?_)
   go_simp
   exact hK.out _ _ ⟨_, hF.pure hok hla hpre rfl (Below.refl _ _), rfl⟩
  rcases Nat.lt_or_ge i 6 with hi | hge
  ·obtain rfl := eqi hi hge
   have p4 := hpre 4 (by kernel_rfl)
   have e4 : s4 = .int .i64 ((c : Int) + 1) := hF.get 4 _ rfl (.inr p4)
   subst e4
   have r4 : A.tmps[78]? = some (.int .i64 ((c : Int) + 1)) := hR.own 4 _ _ rfl rfl
   refine step_of ⟨some 79, _, _, _, _, _⟩ rfl (fun K' hK => ?_)
   go_simp
   exact hK.out _ _ ⟨_, hF.pure hok hla hpre rfl (Below.refl _ _), rfl⟩
  obtain rfl := eqi hi hge
  have p3 := hpre 3 (by kernel_rfl)
  obtain ⟨lg3, cap3, e3, hv3⟩ := hF.get 3 _ rfl (.inr p3)
  replace e3 : s3 = .agg #[.int .i64 (s : Int), .int .i64 (r : Int), .slice (some ⟨lg3, 0, none⟩) (s * r) cap3] := e3
  subst e3
  have r3 : A.tmps[77]? = some (.agg #[.int .i64 (s : Int), .int .i64 (r : Int), .slice (some ⟨lg3, 0, none⟩) (s * r) cap3]) := hR.own 3 _ _ rfl rfl
  have p5 := hpre 5 (by kernel_rfl)
  have e5 : s5 = .int .i64 (c : Int) := hF.get 5 _ rfl (.inr p5)
  subst e5
  have r5 : A.tmps[79]? = some (.int .i64 (c : Int)) := hR.own 5 _ _ rfl rfl
  refine step_of ⟨some 80, _, _, _, _, _⟩ rfl (fun K' hK => ?_)
  go_simp
  go_at_call 128
  (with_reducible refine (row_R w5.heap.size r s c lg3 cap3 qs _ h1 hc (by rw [HSR.out]; exact h9) hv3).mono ?_)
  rintro e Wq ⟨lq, cq, rfl, hvq, _, hq⟩
  exact hK.out _ _ ⟨_, hF.any hok hla hpre rfl hq ⟨lq, cq, rfl, hvq⟩, rfl⟩
 case hd =>
  rintro listed vs WA hF hall
  obtain ⟨s0, s1, s2, s3, s4, s5, s6, s7, s8, hvs⟩ := exl_of 9 vs (fun l => vs = l) hF.len rfl
  subst hvs
  have e1 : s1 = .int .i64 (r : Int) := hF.get 1 _ rfl (.inr (hall 1 (by decide)))
  subst e1
  obtain ⟨lg6, cap6, e6, hv6⟩ := hF.get 6 _ rfl (.inr (hall 6 (by decide)))
  replace e6 : s6 = .slice (some ⟨lg6, c * r * 9, none⟩) r cap6 := e6
  subst e6
  have HV6 := Lib.hid hv6
  have hq := below_none hF.low
  replace H3 := Lib.hid (keep_block H3.out hq)
  replace HI := Lib.hid (HI.out.step hq)
  clear hq
  clear hF hall hok hla
  simp only [putO, layL]
  refine rest_one 7 ⟨some 81, _, _, _, _, _⟩ rfl (by kernel_rfl) rfl (fun K' hK => ?_)
  go_simp
  refine hK.out _ _ ?_
  refine rest_one 8 ⟨none, _, _, _, _, _⟩ rfl (by kernel_rfl) rfl (fun K' hK => ?_)
  obtain ⟨⟨x0, x1, x2⟩, y0, y1, y2⟩ := three_at H3.out
  go_simp
  clear x0 x1 x2 y0 y1 y2
  refine hK.out _ _ ?_
  refine rest_end ?_
  obtain ⟨hva, hge⟩ := HV6.out
  have HGE := Lib.hid (show B3 < lg6 by have := L5.out; omega)
  clear hge HV6
  have HVA := Lib.hid (Off.vals_other hva (set3_other WA B3 (.int .i64 (r : Int)) (.int .i64 1) (.slice (some ⟨lg6, c * r * 9, none⟩) r cap6) (show lg6 ≠ B3 by have := HGE.out; omega)))
  have HLG := Lib.hid (show w.heap.size ≤ lg6 by have := L3.out; have := HGE.out; omega)
  have HLN := Lib.hid (show w.heap.size < lg6 by have := L3.out; have := HGE.out; omega)
  replace H3 := Lib.hid (set3_at H3.out (.int .i64 (r : Int)) (.int .i64 1) (.slice (some ⟨lg6, c * r * 9, none⟩) r cap6))
  replace HI := Lib.hid (HI.out.kept (set3_kept WA B3 (.int .i64 (r : Int)) (.int .i64 1) (.slice (some ⟨lg6, c * r * 9, none⟩) r cap6)) L3.out)
  clear hva
  obtain ⟨W7, hW7⟩ : ∃ Z, ((WA.setCell ⟨B3, 0, none⟩ (.int .i64 (r : Int))).setCell ⟨B3, 1, none⟩ (.int .i64 1)).setCell ⟨B3, 2, none⟩ (.slice (some ⟨lg6, c * r * 9, none⟩) r cap6) = Z := ⟨_, rfl⟩
  rw [hW7] at HVA H3 HI ⊢
  clear hW7
  obtain ⟨⟨x0, x1, x2⟩, _⟩ := three_at H3.out
  have dr1 : decide ((r : Int) = 1) = false := decide_eq_false (by omega)
  have dr2 : decide (r = 1) = false := decide_eq_false (by omega)
  have TW := Lib.hid (fun W => value_arr r 1 (some ⟨lg6, c * r * 9, none⟩) r cap6 W h1 hr9 (by decide) (by decide))
  unfold gridC arrC at TW
  go_wp2_with fail
  refine (TW.out _).mono ?_
  rintro e w8 ⟨rfl, hb⟩
  replace HI := Lib.hid (HI.out.step hb)
  replace HVA := Lib.hid (HVA.out.below hb)
  clear hb x0 x1 x2
  have HR := Lib.hid HI.out.res
  obtain ⟨⟨r0, r1, r2, r3, r4, r5, r6, r7, r8⟩, g0, g1, g2, g3, g4, g5, g6, g7, g8⟩ := nine_at HR.out
  have HF := Lib.hid (set9_at HR.out (.int .i64 5) (.string { data := #[] }) (.string { data := #[] }) (.string { data := #[] }) (.bool false) (.int .i64 0) (.int .i64 (r : Int)) (.int .i64 1) (.slice (some ⟨lg6, c * r * 9, none⟩) r cap6))
  have HG9 := Lib.hid (kept_set9 HI.out.low (Nat.le_refl _) (.int .i64 5) (.string { data := #[] }) (.string { data := #[] }) (.string { data := #[] }) (.bool false) (.int .i64 0) (.int .i64 (r : Int)) (.int .i64 1) (.slice (some ⟨lg6, c * r * 9, none⟩) r cap6))
  obtain ⟨⟨z0, z1, z2, z3, z4, z5, z6, z7, z8⟩, _⟩ := nine_at HF.out
  have HVB := Lib.hid (Off.vals_other HVA.out (set9_other w8 w.heap.size (.int .i64 5) (.string { data := #[] }) (.string { data := #[] }) (.string { data := #[] }) (.bool false) (.int .i64 0) (.int .i64 (r : Int)) (.int .i64 1) (.slice (some ⟨lg6, c * r * 9, none⟩) r cap6) (show lg6 ≠ w.heap.size by have := HLN.out; omega)))
  go_wp2
  refine bodyPost_ret (v := .agg #[.int .i64 5, .string { data := #[] }, .string { data := #[] }, .string { data := #[] }, .bool false, .int .i64 0, .int .i64 (r : Int), .int .i64 1, .slice (some ⟨lg6, c * r * 9, none⟩) r cap6]) (by simp [results, Tryz.results43, go_sem, z0, z1, z2, z3, z4, z5, z6, z7, z8]) rfl ⟨lg6, cap6, rfl, HVB.out, HLG.out, HG9.out⟩

set_option linter.unusedSimpArgs false in
set_option linter.unusedVariables false in
set_option maxHeartbeats 4000000 in
set_option maxRecDepth 100000 in
theorem index_one (r s c b g C gi L Ci : Nat) (qs : List Rat) (w : World) (hr : r = 1) (x : Rat) (hx : colL qs r s c = [x]) (h2 : 1 ≤ s) (hs9 : s ≤ 100) (hc : c < s) (hL : r * s = L) (hq : qs.length = L) (h9 : L ≤ 1000) (ha : ArgsAt w b (some ⟨g, 0, none⟩) 3 C 0) (hv : ValsAt w g 0 [arrVal' (r : Int) (s : Int) gi L Ci, numVal' ((0 : Int) : Rat), numVal' (((c : Int) + 1 : Int) : Rat)]) (hav : ValsAt w gi 0 (numVals qs)) (hne : g ≠ b) (hgi : gi ≠ b) (hE : Env w) (hP : Past b) :
  Calls Tryz.prog 43 #[.pointer (some ⟨b, 0, none⟩)] w fun e w' => e = .returned (.agg #[.int .i64 1, .string (numS x), .string (denS x), .string { data := #[] }, .bool false, .int .i64 0, .int .i64 0, .int .i64 0, .slice none 0 0]) ∧ w.grownBy w' (some b) := by
 have h1 : 1 ≤ r := by omega
 have hr9 : r ≤ 1000 := by
  have : r ≤ r * s := Nat.le_mul_of_pos_right r h2
  omega
 have hsr : s * r = L := by rw [Nat.mul_comm]; exact hL
 have h0L : 0 < L := by rw [← hL]; exact Nat.mul_pos h1 h2
 obtain ⟨vs, hvs⟩ : ∃ vs, [arrVal' (r : Int) (s : Int) gi L Ci, numVal' ((0 : Int) : Rat), numVal' (((c : Int) + 1 : Int) : Rat)] = vs := ⟨_, rfl⟩
 have hvl : vs.length = 3 := by rw [← hvs]; rfl
 rw [hvs] at hv
 have HI := Lib.hid (IxI.start (gi := gi) (qs := qs) (by rw [hvl]; exact ha) hv (by omega) hav (by omega) (by omega) (by omega) hne hgi hE hP)
 have TV0 := Lib.hid (fun W (h : IxI w b g C vs gi qs 0 W) => h.value (r : Int) (s : Int) Ci (by omega) (by subst hvs; rw [hq]; rfl))
 have TV1 := Lib.hid (fun W (h : IxI w b g C vs gi qs 1 W) => h.whole 0 (by omega) (by subst hvs; rfl) (by decide))
 have TV2 := Lib.hid (fun W (h : IxI w b g C vs gi qs 2 W) => h.more (by omega))
 have TV3 := Lib.hid (fun W (h : IxI w b g C vs gi qs 2 W) => h.wholeOr ((c : Int) + 1) 0 (by omega) (by subst hvs; rfl) (by omega))
 have TG := Lib.hid (fun W => grid_arr (r : Int) (s : Int) gi L Ci W)
 unfold arrC gridC at TG
 rw [hq] at TV0
 have HQ := Lib.hid hq
 have HRS := Lib.hid hL
 have HSR := Lib.hid hsr
 have d1 : decide (((c : Int) + 1) < 0) = false := decide_eq_false (by omega)
 have d2 : decide ((r : Int) < 0) = false := decide_eq_false (by omega)
 have d3 : decide ((s : Int) < ((c : Int) + 1)) = false := decide_eq_false (by omega)
 have d4 : decide (0 < ((c : Int) + 1)) = true := decide_eq_true (by omega)
 have hw1 : IntKind.i64.wrap ((c : Int) + 1 - 1) = (c : Int) := by rw [show (c : Int) + 1 - 1 = (c : Int) by omega]; exact IntWalk.i64_in _ (by omega)
 have hw2 : IntKind.i64.wrap (c : Int) = (c : Int) := IntWalk.i64_in _ (by omega)
 clear ha hv hav hne hgi hE hP hq hL hsr hvs hvl
 have HR1 := Lib.hid hr
 have HX1 := Lib.hid hx
 clear hr hx
 go_enter Tryz.func43, Tryz.ntmps43
 go_wp2_with fail
 refine (TV0.out _ HI.out).mono ?_
 rintro e w1 ⟨rfl, hI⟩
 replace HI := Lib.hid hI
 clear hI
 go_wp2_with fail
 refine (TG.out _).mono ?_
 rintro e w2 ⟨rfl, hb⟩
 replace HI := Lib.hid (HI.out.step hb)
 clear hb
 have L3 := Lib.hid (heap_lt HI.out.res)
 have H3 := Lib.hid (heap_alloc_new w2 (.cells #[.int .i64 (r : Int), .int .i64 (s : Int), .slice (some ⟨gi, 0, none⟩) L Ci] 69))
 replace HI := Lib.hid (HI.out.step ((Below.refl w2.heap.size w2).alloc (Nat.le_refl _) (.cells #[.int .i64 (r : Int), .int .i64 (s : Int), .slice (some ⟨gi, 0, none⟩) L Ci] 69)))
 obtain ⟨B3, hB3⟩ : ∃ B, w2.heap.size = B := ⟨_, rfl⟩
 obtain ⟨W1, hW1⟩ : ∃ Z, w2.alloc (.cells #[.int .i64 (r : Int), .int .i64 (s : Int), .slice (some ⟨gi, 0, none⟩) L Ci] 69) = Z := ⟨_, rfl⟩
 rw [hW1] at H3 HI
 rw [hB3] at H3 L3
 have EW := Lib.hid hW1
 have EB := Lib.hid hB3
 clear hW1 hB3
 go_upto_region 2 with fail
 rw [EW.out, EB.out]
 go_wp2_with fail
 refine (TV1.out _ HI.out).mono ?_
 rintro e w3 ⟨rfl, hI, hg⟩
 replace H3 := Lib.hid (kept_block H3.out hg (by have := L3.out; have := HI.out.bl; omega))
 replace HI := Lib.hid hI
 clear hI hg
 go_wp2_with fail
 refine (TV2.out _ HI.out).mono ?_
 rintro e w4 ⟨rfl, hI, hb⟩
 replace H3 := Lib.hid (keep_block H3.out hb)
 replace HI := Lib.hid hI
 clear hI hb
 go_wp2_with fail
 refine (TV3.out _ HI.out).mono ?_
 rintro e w5 ⟨rfl, hI, hg⟩
 replace H3 := Lib.hid (kept_block H3.out hg (by have := L3.out; have := HI.out.bl; omega))
 replace HI := Lib.hid hI
 clear hI hg
 go_wp2_with fail
 refine (stop_no 2 _).mono ?_
 rintro e w6 ⟨rfl, hw⟩
 replace hw := hw.symm
 subst hw
 obtain ⟨⟨x0, x1, x2⟩, _⟩ := three_at H3.out
 go_wp2_with fail
 refine (stop_no 3 _).mono ?_
 rintro e w6 ⟨rfl, hw⟩
 replace hw := hw.symm
 subst hw
 clear x0 x1 x2
 have L5 := Lib.hid (heap_lt H3.out)
 go_upto_region 13 with fail
 go_wp2_with fail
 have hok : okB 9 (idxKs13 r s c gi L Ci B3 w5.heap.size qs) = true := by kernel_rfl
 have hla : ∀ (ix : Nat) (kx : RK), (idxKs13 r s c gi L Ci B3 w5.heap.size qs)[ix]? = some kx → kx.lasts := by
  intro ix kx hk
  match ix, hk with
  | 0, hk => have hk := Option.some.inj hk; subst hk; exact trivial
  | 1, hk => have hk := Option.some.inj hk; subst hk; exact trivial
  | 2, hk => have hk := Option.some.inj hk; subst hk; exact trivial
  | 3, hk => have hk := Option.some.inj hk; subst hk; exact (by first | exact turR_lasts | exact colR_lasts)
  | 4, hk => have hk := Option.some.inj hk; subst hk; exact trivial
  | 5, hk => have hk := Option.some.inj hk; subst hk; exact trivial
  | 6, hk => have hk := Option.some.inj hk; subst hk; exact (by first | exact turR_lasts | exact colR_lasts)
  | 7, hk => have hk := Option.some.inj hk; subst hk; exact trivial
  | 8, hk => have hk := Option.some.inj hk; subst hk; exact trivial
  | _ + 9, hk => exact absurd hk (by simp [idxKs13])
 refine wp_region_facts_abs_r (row := none) (w := w5) 7 7 2 9 [7, 8] (idxKs13 r s c gi L Ci B3 w5.heap.size qs) [some 74, some 75, some 76, some 77, some 78, some 79, some 80, some 81, none] [(3, .pointer (some ⟨B3, 0, none⟩)), (6, .int .i64 ((c : Int) + 1))] 92 (by kernel_rfl) (by kernel_rfl) (by kernel_rfl) rfl rfl (by decide) rfl (by kernel_rfl) rfl (Nat.le_of_eq rfl) rfl ?ho [undef, undef, undef, undef, undef, undef, undef, undef, undef] ?h00 (Fs.start rfl rfl) ?hs ?hd
 case ho =>
  intro k x hk
  match k, hk with
  | 0, hk => have hk := Option.some.inj hk; subst hk; rfl
  | 1, hk => have hk := Option.some.inj hk; subst hk; rfl
  | _ + 2, hk => exact absurd hk (by simp)
 case h00 => simp only [putO, layL]
 case hs =>
  rintro A listed vs Wr hF hR i hi hun hpre
  obtain ⟨s0, s1, s2, s3, s4, s5, s6, s7, s8, hvs⟩ := exl_of 9 vs (fun l => vs = l) hF.len rfl
  subst hvs
  have hge := Nat.zero_le i
  rcases Nat.lt_or_ge i 3 with hi | hge
  ·rcases Nat.lt_or_ge i 1 with hi | hge
   ·obtain rfl := eqi hi hge
    have ro3 : A.tmps[3]? = some (.pointer (some ⟨B3, 0, none⟩)) := hR.out 0 _ rfl
    refine step_of ⟨some 74, _, _, _, _, _⟩ rfl (fun K' hK => ?_)
    go_simp
    exact hK.out _ _ ⟨_, hF.pure hok hla hpre rfl (Below.refl _ _), rfl⟩
   rcases Nat.lt_or_ge i 2 with hi | hge
   ·obtain rfl := eqi hi hge
    have p0 := hpre 0 (by kernel_rfl)
    have e0 : s0 = .pointer (some ⟨B3, 0, none⟩) := hF.get 0 _ rfl (.inr p0)
    subst e0
    have r0 : A.tmps[74]? = some (.pointer (some ⟨B3, 0, none⟩)) := hR.own 0 _ _ rfl rfl
    have hcc := (three_at (keep_block H3.out (below_none hF.low))).1
    have cH30 := hcc.1
    have cH31 := hcc.2.1
    have cH32 := hcc.2.2
    clear hcc
    refine step_of ⟨some 75, _, _, _, _, _⟩ rfl (fun K' hK => ?_)
    go_simp
    exact hK.out _ _ ⟨_, hF.pure hok hla hpre rfl (Below.refl _ _), rfl⟩
   obtain rfl := eqi hi hge
   have ro3 : A.tmps[3]? = some (.pointer (some ⟨B3, 0, none⟩)) := hR.out 0 _ rfl
   have hcc := (three_at (keep_block H3.out (below_none hF.low))).1
   have cH30 := hcc.1
   have cH31 := hcc.2.1
   have cH32 := hcc.2.2
   clear hcc
   refine step_of ⟨some 76, _, _, _, _, _⟩ rfl (fun K' hK => ?_)
   go_simp
   exact hK.out _ _ ⟨_, hF.pure hok hla hpre rfl (Below.refl _ _), rfl⟩
  rcases Nat.lt_or_ge i 5 with hi | hge
  ·rcases Nat.lt_or_ge i 4 with hi | hge
   ·obtain rfl := eqi hi hge
    have p2 := hpre 2 (by kernel_rfl)
    have e2 : s2 = .agg #[.int .i64 (r : Int), .int .i64 (s : Int), .slice (some ⟨gi, 0, none⟩) L Ci] := hF.get 2 _ rfl (.inr p2)
    subst e2
    have r2 : A.tmps[76]? = some (.agg #[.int .i64 (r : Int), .int .i64 (s : Int), .slice (some ⟨gi, 0, none⟩) L Ci]) := hR.own 2 _ _ rfl rfl
    refine step_of ⟨some 77, _, _, _, _, _⟩ rfl (fun K' hK => ?_)
    go_simp
    go_at_call 49
    (with_reducible refine (turned_R w5.heap.size r s gi L Ci qs _ h1 h2 HRS.out HQ.out h9 (HI.out.step (below_none hF.low)).arr (below_none hF.low).size).mono ?_)
    rintro e Wq ⟨lq, cq, rfl, hvq, _, hq⟩
    exact hK.out _ _ ⟨_, hF.any hok hla hpre rfl hq ⟨lq, cq, rfl, hvq⟩, rfl⟩
   obtain rfl := eqi hi hge
   have ro6 : A.tmps[6]? = some (.int .i64 ((c : Int) + 1)) := hR.out 1 _ rfl
   refine step_of ⟨some 78, _, _, _, _, _⟩ rfl (fun K' hK => ?_)
   go_simp
   exact hK.out _ _ ⟨_, hF.pure hok hla hpre rfl (Below.refl _ _), rfl⟩
  rcases Nat.lt_or_ge i 6 with hi | hge
  ·obtain rfl := eqi hi hge
   have p4 := hpre 4 (by kernel_rfl)
   have e4 : s4 = .int .i64 ((c : Int) + 1) := hF.get 4 _ rfl (.inr p4)
   subst e4
   have r4 : A.tmps[78]? = some (.int .i64 ((c : Int) + 1)) := hR.own 4 _ _ rfl rfl
   refine step_of ⟨some 79, _, _, _, _, _⟩ rfl (fun K' hK => ?_)
   go_simp
   exact hK.out _ _ ⟨_, hF.pure hok hla hpre rfl (Below.refl _ _), rfl⟩
  obtain rfl := eqi hi hge
  have p3 := hpre 3 (by kernel_rfl)
  obtain ⟨lg3, cap3, e3, hv3⟩ := hF.get 3 _ rfl (.inr p3)
  replace e3 : s3 = .agg #[.int .i64 (s : Int), .int .i64 (r : Int), .slice (some ⟨lg3, 0, none⟩) (s * r) cap3] := e3
  subst e3
  have r3 : A.tmps[77]? = some (.agg #[.int .i64 (s : Int), .int .i64 (r : Int), .slice (some ⟨lg3, 0, none⟩) (s * r) cap3]) := hR.own 3 _ _ rfl rfl
  have p5 := hpre 5 (by kernel_rfl)
  have e5 : s5 = .int .i64 (c : Int) := hF.get 5 _ rfl (.inr p5)
  subst e5
  have r5 : A.tmps[79]? = some (.int .i64 (c : Int)) := hR.own 5 _ _ rfl rfl
  refine step_of ⟨some 80, _, _, _, _, _⟩ rfl (fun K' hK => ?_)
  go_simp
  go_at_call 128
  (with_reducible refine (row_R w5.heap.size r s c lg3 cap3 qs _ h1 hc (by rw [HSR.out]; exact h9) hv3).mono ?_)
  rintro e Wq ⟨lq, cq, rfl, hvq, _, hq⟩
  exact hK.out _ _ ⟨_, hF.any hok hla hpre rfl hq ⟨lq, cq, rfl, hvq⟩, rfl⟩
 case hd =>
  rintro listed vs WA hF hall
  obtain ⟨s0, s1, s2, s3, s4, s5, s6, s7, s8, hvs⟩ := exl_of 9 vs (fun l => vs = l) hF.len rfl
  subst hvs
  have e1 : s1 = .int .i64 (r : Int) := hF.get 1 _ rfl (.inr (hall 1 (by decide)))
  subst e1
  obtain ⟨lg6, cap6, e6, hv6⟩ := hF.get 6 _ rfl (.inr (hall 6 (by decide)))
  replace e6 : s6 = .slice (some ⟨lg6, c * r * 9, none⟩) r cap6 := e6
  subst e6
  have HV6 := Lib.hid hv6
  have hq := below_none hF.low
  replace H3 := Lib.hid (keep_block H3.out hq)
  replace HI := Lib.hid (HI.out.step hq)
  clear hq
  clear hF hall hok hla
  simp only [putO, layL]
  refine rest_one 7 ⟨some 81, _, _, _, _, _⟩ rfl (by kernel_rfl) rfl (fun K' hK => ?_)
  go_simp
  refine hK.out _ _ ?_
  refine rest_one 8 ⟨none, _, _, _, _, _⟩ rfl (by kernel_rfl) rfl (fun K' hK => ?_)
  obtain ⟨⟨x0, x1, x2⟩, y0, y1, y2⟩ := three_at H3.out
  go_simp
  clear x0 x1 x2 y0 y1 y2
  refine hK.out _ _ ?_
  refine rest_end ?_
  obtain ⟨hva, hge⟩ := HV6.out
  have HGE := Lib.hid (show B3 < lg6 by have := L5.out; omega)
  clear hge HV6
  have HVA := Lib.hid (Off.vals_other hva (set3_other WA B3 (.int .i64 (r : Int)) (.int .i64 1) (.slice (some ⟨lg6, c * r * 9, none⟩) r cap6) (show lg6 ≠ B3 by have := HGE.out; omega)))
  have HLG := Lib.hid (show w.heap.size ≤ lg6 by have := L3.out; have := HGE.out; omega)
  have HLN := Lib.hid (show w.heap.size < lg6 by have := L3.out; have := HGE.out; omega)
  replace H3 := Lib.hid (set3_at H3.out (.int .i64 (r : Int)) (.int .i64 1) (.slice (some ⟨lg6, c * r * 9, none⟩) r cap6))
  replace HI := Lib.hid (HI.out.kept (set3_kept WA B3 (.int .i64 (r : Int)) (.int .i64 1) (.slice (some ⟨lg6, c * r * 9, none⟩) r cap6)) L3.out)
  clear hva
  obtain ⟨W7, hW7⟩ : ∃ Z, ((WA.setCell ⟨B3, 0, none⟩ (.int .i64 (r : Int))).setCell ⟨B3, 1, none⟩ (.int .i64 1)).setCell ⟨B3, 2, none⟩ (.slice (some ⟨lg6, c * r * 9, none⟩) r cap6) = Z := ⟨_, rfl⟩
  rw [hW7] at HVA H3 HI ⊢
  clear hW7
  obtain ⟨⟨x0, x1, x2⟩, _⟩ := three_at H3.out
  have HR := Lib.hid HI.out.res
  obtain ⟨⟨r0, r1, r2, r3, r4, r5, r6, r7, r8⟩, g0, g1, g2, g3, g4, g5, g6, g7, g8⟩ := nine_at HR.out
  have HF := Lib.hid (set9_at HR.out (.int .i64 1) (.string (numS x)) (.string (denS x)) (.string { data := #[] }) (.bool false) (.int .i64 0) (.int .i64 0) (.int .i64 0) (.slice none 0 0))
  have HG9 := Lib.hid (kept_set9 HI.out.low (Nat.le_refl _) (.int .i64 1) (.string (numS x)) (.string (denS x)) (.string { data := #[] }) (.bool false) (.int .i64 0) (.int .i64 0) (.int .i64 0) (.slice none 0 0))
  obtain ⟨⟨z0, z1, z2, z3, z4, z5, z6, z7, z8⟩, _⟩ := nine_at HF.out
  obtain ⟨j0, j1, j2, j3, j4, j5, j6, j7, j8⟩ := Off.item_at HVA.out 0 (by rw [colL_len]; omega) x (by simp only [HX1.out, List.getElem_cons_zero])
  simp only [Nat.zero_mul, Nat.add_zero] at j0 j1 j2 j3 j4 j5 j6 j7 j8
  obtain ⟨o, ho⟩ : ∃ o, c * r * 9 = o := ⟨_, rfl⟩
  rw [ho] at j0 j1 j2 j3 j4 j5 j6 j7 j8 x2 ⊢
  have hr1 := HR1.out
  clear ho HVA HI H3 HX1 HR1 L5 L3 HGE HLG HLN TG TV0 TV1 TV2 TV3 d1 d2 d3 d4 hw1 hw2 h1 h2 hs9 hc h9 hr9 h0L HSR HRS HQ EW EB HR HF
  subst hr1
  skip
  go_wp2
  refine bodyPost_ret (v := .agg #[.int .i64 1, .string (numS x), .string (denS x), .string { data := #[] }, .bool false, .int .i64 0, .int .i64 0, .int .i64 0, .slice none 0 0]) (by simp [results, Tryz.results43, go_sem, z0, z1, z2, z3, z4, z5, z6, z7, z8]) rfl ⟨rfl, HG9.out⟩
end Go.Proofs.YtkghpiaoggljjaaGreatDoor.Num.Fl
