/- Contracts of the program's functions, joined from smaller texts. Conditions stand at each theorem. -/
import Derived.Test.YtjcdeeahjkfmoaaGreatDoorDefA
import Derived.Test.YtjcdeeahjkfmoaaGreatDoorDegA
import Derived.Deep.RegionLaw
import Derived.Below
import Derived.Test.YtjcdeeahjkfmoaaGreatDoorDeeB
import Derived.Test.YtjcdeeahjkfmoaaGreatDoorNumF
set_option linter.unusedVariables false
set_option linter.unusedSimpArgs false
set_option maxRecDepth 100000
set_option maxHeartbeats 4000000
namespace Go.Proofs.YtjcdeeahjkfmoaaGreatDoor
namespace Num.Mt
open Go.RowKit Go.Lib Num
theorem step_append_own {P : Program} {ops : Array Oper} {o : Oper} {a : Act} {w : World} {K : Act → World → Prop} {Q : Exit → Act → World → Prop} {E : Prop} (hgd : o.guard = none) (s x : Operand) (t : TypeId)
  (ho : o.op = .call { callee := .builtin .append, args := #[s, x], argTypes := #[t, t] })
  (base : Nat) (e : TypeId) (i : TypeInfo) (z : Value) (size bytes : Nat) (ht : P.underlying t = some (.slice e)) (hi : P.info? e = some i) (hz : i.zero = some z)
  (hsize : i.size = size) (hby : i.bytes = bytes) (hzs : z.cells.size = size) (hsz : 0 < size)
  (v : Value) (n : Nat) (xs : List Value) (hs : a.eval s = v) (hown : w.ownsRow base e size v n xs)
  (ad : Addr) (m c : Nat) (news : List Value) (hx : a.eval x = .slice (some ad) m c) (hl : news.length = m * size) (hnews : ∀ j u, news[j]? = some u → w.cell? (ad.add j) = some u) (h1 : ∀ u ∈ news, u.oneCell' = true)
  (h63 : n + m ≤ maxLen) (hbytes : (n + m) * bytes ≤ 140737488355328) (hbase : base ≤ w.heap.size)
  (hK : ∀ v' w', w'.ownsRow base e size v' (n + m) (xs ++ news) → w.grownBy w' v.ownBlock → K (a.put o.dst v') w') :
  if Region.wanted o (yielded ops a.tmps) = true then Oper.wp P o a w K Q else E := by
 have hw : Region.wanted o (yielded ops a.tmps) = true := by simp [Region.wanted, hgd]
 rw [if_pos hw]
 exact wp_append_own w s x t ho base e i z size bytes ht hi hz hsize hby hzs hsz v n xs hs hown ad m c news hx hl hnews h1 h63 hbytes hbase fun v' w' h2 h3 _ => hK v' w' h2 h3
open Classical in
noncomputable def valQ (x : Val) : Rat := if h : ∃ q : Rat, fits q = true ∧ x.n = numS q ∧ x.d = denS q then Classical.choose h else 0
theorem valQ_spec {x : Val} (h : SingleOk x) (hk : x.k = 1) : fits (valQ x) = true ∧ x.n = numS (valQ x) ∧ x.d = denS (valQ x) := by
 have hq := h.num hk
 unfold valQ
 rw [dif_pos hq]
 exact Classical.choose_spec hq
theorem valQ_fields {x : Val} (h : SingleOk x) (hk : x.k = 1) : ∃ A C, x = ⟨1, numS (valQ x), denS (valQ x), ⟨#[]⟩, false, 0, 0, 0, A, 0, C⟩ := by
 obtain ⟨_, h1, h2⟩ := valQ_spec h hk
 obtain ⟨q, A, C, _, e⟩ := num_fields h hk
 obtain ⟨p, hp⟩ : ∃ p, valQ x = p := ⟨_, rfl⟩
 rw [hp] at h1 h2 ⊢
 subst e
 have h1 : numS q = numS p := h1
 have h2 : denS q = denS p := h2
 exact ⟨A, C, by rw [h1, h2]⟩
noncomputable def qsOf (its : List Val) : List Rat := its.map valQ
theorem qsOf_len (its : List Val) : (qsOf its).length = its.length := by simp [qsOf]
theorem qsOf_at {its : List Val} {j : Nat} (h : j < its.length) : (qsOf its).getD j 0 = valQ its[j] := by
 rw [List.getD_eq_getElem?_getD, List.getElem?_eq_getElem (by rw [qsOf_len]; exact h)]
 simp [qsOf]
theorem nums_qsOf {its : List Val} (hs : ∀ x ∈ its, SingleOk x) (hn : allNum its = true) : NumItems its (qsOf its) := by
 refine ⟨(qsOf_len its).symm, fun i hi => ?_⟩
 have hx := List.getElem_mem hi
 have hk := List.all_eq_true.1 hn _ hx
 rw [qsOf_at hi]
 exact valQ_fields (hs _ hx) (by simpa using hk)
def rowF (f : Nat → Rat) (k : Nat) : List Rat := (List.range k).map f
theorem rowF_succ (f : Nat → Rat) (k : Nat) : rowF f (k + 1) = rowF f k ++ [f k] := by simp [rowF, List.range_succ]
theorem rowF_len (f : Nat → Rat) (k : Nat) : (rowF f k).length = k := by simp [rowF]
theorem ownF_fr {B : Nat} {v : Value} {f : Nat → Rat} {n : Nat} {W : World} (h : W.ownsRow B 30 2 v n (fracCells (rowF f n))) (h0 : 0 < n) : ∃ G C, v = .slice (some ⟨G, 0, none⟩) n C ∧ B ≤ G ∧ FRow W G n f := by
 rcases h.2 with ⟨_, h0'⟩ | ⟨g, cap, cur, rfl, hb, hg, hc1, hc2, hcs, htk⟩
 ·omega
 ·refine ⟨g, cap, rfl, hb, cur, hg, fun i hi => ?_⟩
  obtain ⟨h1, h2⟩ := fracCells_get (rowF f n) i (by rw [rowF_len]; exact hi)
  rw [← htk] at h1 h2
  rw [List.getElem?_take_of_lt (by omega)] at h1 h2
  exact ⟨by simpa [rowF] using h1, by simpa [rowF] using h2⟩
theorem own_lt_row' {B n : Nat} {W : World} {v : Value} {e : TypeId} {s : Nat} {xs : List Value} (h : W.ownsRow B e s v n xs) : ∀ r, v.ownBlock = some r → B ≤ r := by
 intro r hr
 rcases h.2 with ⟨rfl, _⟩ | ⟨g, cap, cur, rfl, hb, _⟩
 ·simp [Value.ownBlock] at hr
 ·simp [Value.ownBlock] at hr; omega
structure RdR (W : World) (b N n i B k : Nat) (g : Nat → Nat) (m : Mx) (v : Value) (wx : World) : Prop where
 rs : Rows W b N n i B g m v wx
 own : wx.ownsRow B 30 2 v k (fracCells (rowF (m i) k))
theorem RdR.step {W wx w' : World} {b N n i B k : Nat} {g : Nat → Nat} {m : Mx} {v : Value} (h : RdR W b N n i B k g m v wx) (hb : Below wx.heap.size wx w') : RdR W b N n i B k g m v w' :=
 ⟨h.rs.step hb, h.own.kept (only_of_below hb none) (by cases v.ownBlock <;> simp)⟩
theorem RdR.push {W wx w' : World} {b N n i B k : Nat} {g : Nat → Nat} {m : Mx} {v v' : Value} (h : RdR W b N n i B k g m v wx) (ho : w'.ownsRow B 30 2 v' (k + 1) (fracCells (rowF (m i) (k + 1)))) (hg : wx.grownBy w' v.ownBlock) (hi : i < N) : RdR W b N n i B (k + 1) g m v' (w'.setCell ⟨b, i, none⟩ v') := by
 have h1 := h.rs.grown hg (own_lt_row' h.own)
 exact ⟨h1.store hi v', ownsRow_setCell_below ho (a := ⟨b, i, none⟩) h.rs.bl v'⟩
theorem RdR.next {W wx : World} {b N n i B : Nat} {g : Nat → Nat} {m : Mx} {v : Value} (h : RdR W b N n i B n g m v wx) (h0 : 0 < n) (hi : i < N) : ∃ g' B', Rows W b N n (i + 1) B' g' m (.slice none 0 0) wx := by
 obtain ⟨G, C, e, hG, hf⟩ := ownF_fr h.own h0
 subst e
 exact ⟨_, _, h.rs.next hi hG hf⟩
def ReadRet (W : World) (its : List Val) (N n : Nat) : Ending → World → Prop := fun e w' =>
 ((allNum its = true ∧ ∃ b g, e = .returned (.slice (some ⟨b, 0, none⟩) N N) ∧ MxAt w' b N n g (matQ (qsOf its) n) ∧ W.heap.size < b ∧ ∀ r, r < N → b < g r) ∨ (allNum its = false ∧ e = stopped 2)) ∧ Below W.heap.size W w'
attribute [local irreducible] wpOp
set_option linter.unusedSimpArgs false in
set_option linter.unusedVariables false in
theorem pread_any (a : Arg) (N n : Nat) (W : World) (hok : ArgOk W a) (hsi : ∀ x ∈ a.items, SingleOk x) (h1 : (sizeOf a.v).1 = (N : Int)) (h2 : (sizeOf a.v).2 = (n : Int)) (hN : 1 ≤ N) (hn : 1 ≤ n) (hL : N * n = a.items.length) (h9 : a.items.length ≤ 1000) :
  Calls Tryz.prog 244 #[a.v.agg] W (ReadRet W a.items N n) := by
 have hN9 : N ≤ 1000 := Nat.le_trans (Nat.le_mul_of_pos_right N hn) (by omega)
 have hn9 : n ≤ 1000 := Nat.le_trans (Nat.le_mul_of_pos_left n hN) (by omega)
 have TS := hid (fun W' => psize_any a.v W')
 have TL := hid (fun W' (hb : Below W.heap.size W W') => plist_any a.v a.vs W' (fun h5 => ((hok.below hb).row h5).1) (fun h5 => (hok.row h5).2))
 unfold ItemsRet at TL
 rw [show itemsOf a.v a.vs = a.items from rfl] at TL
 rw [h1, h2] at TS
 obtain ⟨its, hits⟩ : ∃ z, a.items = z := ⟨_, rfl⟩
 rw [hits] at TL hL h9 hsi ⊢
 obtain ⟨L, hLL⟩ : ∃ z, its.length = z := ⟨_, rfl⟩
 rw [hLL] at TL hL h9
 have HLL := hid hLL
 have HL := hid hL
 have HSI := hid hsi
 have hmk1 := make_rows N hN9
 obtain ⟨m, hm⟩ : ∃ m, matQ (qsOf its) n = m := ⟨_, rfl⟩
 have HM := hid hm
 obtain ⟨i0, hi0', hz0, hz1, hz2⟩ := info_frac
 obtain ⟨v, vs⟩ := a
 clear hits hLL hL hok hsi h1 h2 hm
 obtain ⟨vk, vn, vd, vt, vo, vc, vr, vz, vA, vL, vC⟩ := v
 have e0 : Val.agg ⟨vk, vn, vd, vt, vo, vc, vr, vz, vA, vL, vC⟩ = .agg #[.int .i64 vk, .string vn, .string vd, .string vt, .bool vo, .int .i64 vc, .int .i64 vr, .int .i64 vz, .slice vA vL vC] := rfl
 simp only [e0] at TS TL ⊢
 clear e0
 have hb0 : Below W.heap.size W (W.alloc (.cells #[.int .i64 vk, .string vn, .string vd, .string vt, .bool vo, .int .i64 vc, .int .i64 vr, .int .i64 vz, .slice vA vL vC] 32)) := (Below.refl _ _).alloc (Nat.le_refl _) _
 have HX := hid (heap_alloc_new W (.cells #[.int .i64 vk, .string vn, .string vd, .string vt, .bool vo, .int .i64 vc, .int .i64 vr, .int .i64 vz, .slice vA vL vC] 32))
 have HG := hid hb0
 clear hb0
 go_enter Tryz.func244, Tryz.ntmps244
 obtain ⟨⟨x0, x1, x2, x3, x4, x5, x6, x7, x8⟩, _⟩ := nine_at HX.out
 go_wp2_with fail
 refine (TS.out _).mono ?_
 rintro e w1 ⟨rfl, hb⟩
 replace HX := hid (keep_block HX.out hb)
 replace HG := hid (HG.out.trans (hb.mono HG.out.size))
 clear hb x0 x1 x2 x3 x4 x5 x6 x7 x8
 obtain ⟨⟨x0, x1, x2, x3, x4, x5, x6, x7, x8⟩, _⟩ := nine_at HX.out
 go_wp2_with fail
 refine (TL.out _ HG.out).mono ?_
 rintro e w2 ⟨iA, iC, rfl, hb, hit⟩
 replace HX := hid (keep_block HX.out hb)
 replace HG := hid (HG.out.trans (hb.mono HG.out.size))
 have HIT := hid hit
 clear hb hit x0 x1 x2 x3 x4 x5 x6 x7 x8
 have HLT := hid (heap_lt HX.out)
 have hb0 : Below w2.heap.size w2 (w2.alloc (.cells (madeCells #[.slice none 0 0] N) 148)) := (Below.refl _ _).alloc (Nat.le_refl _) _
 have HI0 := hid (Rows.start w2.heap.size N n (fun _ => 0) m (heap_alloc_new w2 (.cells (madeCells #[.slice none 0 0] N) 148)) (size_madeCells _ _) (fun r hr => made_at _ _ _ hr) hb0 (Nat.le_refl _))
 have HW2 := hid HG.out
 clear hb0 HX
 go_wp2_with fail
 obtain ⟨b, hb⟩ : ∃ b, w2.heap.size = b := ⟨_, rfl⟩
 have HBB := hid hb
 rw [hb] at HI0 HLT ⊢
 clear hb
 go_loopg [20] N (fun gh v20 wx => ∃ (i B : Nat) (g : Nat → Nat), v20 = .int .i64 (i : Int) ∧ i ≤ N ∧ gh = N - i ∧ Rows w2 b N n i B g m (.slice none 0 0) wx ∧ ∀ t (h : t < its.length), t < i * n → its[t].k = 1)
 case atStart => exact ⟨0, _, _, rfl, Nat.zero_le _, rfl, HI0.out, fun t _ h => absurd h (by omega)⟩
 case round =>
  clear HI0
  obtain ⟨i, B, g, rfl, hi, hgi, hI, hnum⟩ := hrel
  have HI := hid (show RdR w2 b N n i B 0 g m (.slice none 0 0) _ from ⟨hI, World.ownsRow_nil _ _ _ _⟩)
  have HNU := hid hnum
  clear hI hnum
  by_cases hi : i < N
  ·skip
   have i1 : decide ((i : Int) < (N : Int)) = true := decide_eq_true (by omega)
   have i2 : decide (i < N) = true := decide_eq_true hi
   have i3 : (0 : Int) ≤ (i : Int) := by omega
   have i4 : (i : Int) < (N : Int) := by omega
   have i5 : IntKind.i64.wrap ((i : Int) + 1) = (i : Int) + 1 := IntWalk.i64_in _ (by omega)
   go_wp2_with fail
   go_loopg [24] n (fun gh v24 wx => ∃ (k : Nat) (v : Value), v24 = .int .i64 (k : Int) ∧ k ≤ n ∧ gh = n - k ∧ RdR w2 b N n i B k g m v wx ∧ ∀ t (h : t < its.length), t < i * n + k → its[t].k = 1)
   case atStart => exact ⟨0, _, rfl, Nat.zero_le _, rfl, HI.out, fun t h ht => HNU.out t h (by omega)⟩
   case round =>
    clear HI HNU
    obtain ⟨k, v, rfl, hk, hgk, hJ, hnum⟩ := hrel
    have HI := hid hJ
    have HNU := hid hnum
    clear hJ hnum
    by_cases hk : k < n
    ·skip
     have k1 : decide ((k : Int) < (n : Int)) = true := decide_eq_true (by omega)
     have k2 : decide (k < n) = true := decide_eq_true hk
     have k3 : (0 : Int) ≤ (k : Int) := by omega
     have k4 : (k : Int) < (n : Int) := by omega
     have k5 : IntKind.i64.wrap ((k : Int) + 1) = (k : Int) + 1 := IntWalk.i64_in _ (by omega)
     obtain ⟨av, cv, hu⟩ := owns_form HI.out.own
     subst hu
     obtain ⟨p, hp⟩ : ∃ p, i * n = p := ⟨_, rfl⟩
     obtain ⟨j, hj⟩ : ∃ j, p + k = j := ⟨_, rfl⟩
     have hpn : p + n ≤ L := by
      rw [← HL.out, ← hp, ← Nat.succ_mul]
      exact Nat.mul_le_mul (by omega) (Nat.le_refl _)
     have hwm : IntKind.i64.wrap ((i : Int) * (n : Int)) = (p : Int) := by rw [← Int.natCast_mul, hp]; exact IntWalk.i64_in _ (by omega)
     have hwa : IntKind.i64.wrap ((p : Int) + (k : Int)) = (j : Int) := by rw [← hj]; exact IntWalk.i64_in _ (by omega)
     have hj0 : (0 : Int) ≤ (j : Int) := by omega
     have hj1 : (j : Int) < (L : Int) := by omega
     have hji : j < its.length := by have := HLL.out; omega
     obtain ⟨gi, oi, hge, hvs⟩ := HIT.out (by omega)
     subst hge
     have hcells := (hvs.below HI.out.rs.low).at j hji
     have hso := HSI.out _ (List.getElem_mem hji)
     have hmq : m i k = valQ its[j] := by
      rw [← HM.out]
      show (qsOf its).getD (i * n + k) 0 = _
      rw [hp, hj]
      exact qsOf_at hji
     obtain ⟨x, hx⟩ : ∃ x, its[j] = x := ⟨_, rfl⟩
     have HXX := hid hx
     rw [hx] at hcells hso hmq
     have HIP := hid hp
     rw [hp] at HNU
     have HPK := hid hj
     rw [hj] at HNU
     by_cases hk1 : x.k = 1
     ·have HNU2 : Hid (∀ t (h : t < its.length), t < i * n + (k + 1) → its[t].k = 1) := hid fun t h ht => by
       by_cases ht2 : t < j
       ·exact HNU.out t h ht2
       ·have : t = j := by have := HIP.out; have := HPK.out; omega
        subst this
        rw [HXX.out]; exact hk1
      obtain ⟨yA, yC, hxe⟩ := valQ_fields hso hk1
      obtain ⟨q, hqq⟩ : ∃ q, valQ x = q := ⟨_, rfl⟩
      rw [hqq] at hxe hmq
      subst hxe
      have HMQ := hid hmq
      have hcells : CellsAt wr gi (oi + j * 9) (.int .i64 1) (.string (numS q)) (.string (denS q)) (.string ⟨#[]⟩) (.bool false) (.int .i64 0) (.int .i64 0) (.int .i64 0) (.slice yA 0 yC) := hcells
      obtain ⟨c0, c1, c2, c3, c4, c5, c6, c7, c8⟩ := hcells
      have hml : k + 1 ≤ maxLen := by unfold maxLen; omega
      have H9 := hid (heap_alloc_new wr (.cells #[.int .i64 1, .string (numS q), .string (denS q), .string ⟨#[]⟩, .bool false, .int .i64 0, .int .i64 0, .int .i64 0, .slice yA 0 yC] 32))
      obtain ⟨⟨a0, a1, a2, a3, a4, a5, a6, a7, a8⟩, _⟩ := nine_at H9.out
      have HI2 := hid (HI.out.step ((Below.refl wr.heap.size wr).alloc (Nat.le_refl _) (.cells #[.int .i64 1, .string (numS q), .string (denS q), .string ⟨#[]⟩, .bool false, .int .i64 0, .int .i64 0, .int .i64 0, .slice yA 0 yC] 32)))
      clear HI hp hj hji hqq hx hmq hso hk1 hvs HXX HIP HPK
      go_upto_region 13 with fail
      clear c0 c1 c2 c3 c4 c5 c6 c7 c8 a0 a1 a2 a3 a4 a5 a6 a7 a8
      have HI := HI2
      clear HI2
      obtain ⟨b9, hb9⟩ : ∃ b9, wr.heap.size = b9 := ⟨_, rfl⟩
      rw [hb9] at H9
      obtain ⟨w9, hw9⟩ : ∃ Z, wr.alloc (.cells #[.int .i64 1, .string (numS q), .string (denS q), .string ⟨#[]⟩, .bool false, .int .i64 0, .int .i64 0, .int .i64 0, .slice yA 0 yC] 32) = Z := ⟨_, rfl⟩
      rw [hw9] at HI H9 ⊢
      rw [hb9]
      clear hb9 hw9
      have HIA0 := hid (HI.out.step ((Below.refl w9.heap.size w9).alloc (Nat.le_refl _) (.cells #[.string (numS q), .string (denS q)] 30)))
      have HIA := hid (HIA0.out.step ((Below.refl (w9.alloc (.cells #[.string (numS q), .string (denS q)] 30)).heap.size (w9.alloc (.cells #[.string (numS q), .string (denS q)] 30))).drew))
      have HNW := hid (World.news_of_block (w := (w9.alloc (.cells #[.string (numS q), .string (denS q)] 30)).drew) (cs := #[.string (numS q), .string (denS q)]) (t := 30) (fr := (0, 0)) (heap_alloc_new w9 (.cells #[.string (numS q), .string (denS q)] 30)))
      have HOW := hid HIA.out.own
      have HBS := hid HIA.out.rs.bs
      have y0 := HI.out.rs.cell hi
      have y1 := HIA0.out.rs.cell hi
      obtain ⟨⟨a0, a1, a2, a3, a4, a5, a6, a7, a8⟩, _⟩ := nine_at H9.out
      clear HI H9 HIA0
      go_region_law (first
       | (refine step_append_own rfl _ _ 148 rfl B 30 i0 _ 2 32 Tryz.underlying148 hi0' hz0 hz1 hz2 rfl (by decide) (.slice av k cv) k (fracCells (rowF (m i) k)) (by simp [Act.eval, Act.put]) HOW.out ⟨w9.heap.size, 0, none⟩ 1 1 [.string (numS q), .string (denS q)] (by simp [Act.eval, Act.put]) rfl HNW.out (by simp [Value.oneCell']) hml (by omega) HBS.out ?_;
          intro v5 w5 hown5 hgrow5;
          have HP := hid (HIA.out.push (by rw [rowF_succ, HMQ.out, fracCells_snoc]; exact hown5) hgrow5 hi);
          have y5 := (HIA.out.rs.grown hgrow5 (own_lt_row' HIA.out.own)).cell hi;
          have z5 := (HIA.out.rs.grown hgrow5 (own_lt_row' HIA.out.own)).free i;
          obtain ⟨av5, c5, hu5⟩ := owns_form hown5;
          subst hu5;
          clear hown5 hgrow5)
       | fail)
      all_goals
       go_wp2
       go_roundg (n - (k + 1))
       case measure => omega
       case rel => exact ⟨k + 1, _, by go_num, by omega, by omega, HP.out, HNU2.out⟩
     ·have HAL := hid (show allNum its = false from by
       unfold allNum
       rw [List.all_eq_false]
       exact ⟨its[j], List.getElem_mem hji, by rw [hx]; simpa using hk1⟩)
      obtain ⟨yk, yn, yd, yt, yo, yc, yr, ys, yA, yL, yC⟩ := x
      have hcells : CellsAt wr gi (oi + j * 9) (.int .i64 yk) (.string yn) (.string yd) (.string yt) (.bool yo) (.int .i64 yc) (.int .i64 yr) (.int .i64 ys) (.slice yA yL yC) := hcells
      obtain ⟨c0, c1, c2, c3, c4, c5, c6, c7, c8⟩ := hcells
      have q1 : (yk == 1) = false := by rw [beq_eq_false_iff_ne]; exact hk1
      have q2 : (yk != 1) = true := by rw [bne_iff_ne]; exact hk1
      have HB2 := hid (HI.out.rs.low.trans (((Below.refl wr.heap.size wr).alloc (Nat.le_refl _) (.cells #[.int .i64 yk, .string yn, .string yd, .string yt, .bool yo, .int .i64 yc, .int .i64 yr, .int .i64 ys, .slice yA yL yC] 32)).mono HI.out.rs.low.size))
      clear HI hp hj hji hx hmq hso hk1 hvs HXX HIP HPK
      go_wp2_with fail
      refine (stop_code 2 _ (by decide)).mono ?_
      rintro e w6 ⟨rfl, rfl⟩
      unfold stopped
      go_wp2
      exact ⟨rfl, .inr ⟨HAL.out, rfl⟩, HG.out.trans (HB2.out.mono HG.out.size)⟩
    ·skip
     have k1 : decide ((k : Int) < (n : Int)) = false := decide_eq_false (by omega)
     have k2 : decide (k < n) = false := decide_eq_false hk
     have hkn : n = k := by omega
     subst hkn
     clear hk
     obtain ⟨g', B', hN'⟩ := HI.out.next (by omega) hi
     have HN := hid hN'
     have HNU2 := hid (show ∀ t (h : t < its.length), t < (i + 1) * n → its[t].k = 1 from fun t h ht => HNU.out t h (by rw [Nat.succ_mul] at ht; exact ht))
     clear hN' HI HNU
     go_wp2
     go_roundg (N - (i + 1))
     case measure => omega
     case rel => exact ⟨i + 1, _, _, by go_num, by omega, by omega, HN.out, HNU2.out⟩
  ·skip
   have i1 : decide ((i : Int) < (N : Int)) = false := decide_eq_false (by omega)
   have i2 : decide (i < N) = false := decide_eq_false hi
   have hin : i = N := by omega
   subst hin
   clear hi
   have HAL := hid (show allNum its = true from by
    unfold allNum
    rw [List.all_eq_true]
    intro x hx
    obtain ⟨t, ht, rfl⟩ := List.getElem_of_mem hx
    exact decide_eq_true (HNU.out t ht (by have := HL.out; have := HLL.out; omega)))
   have HMD := hid HI.out.rs.done
   rw [← HM.out] at HMD
   clear HNU
   go_wp2
   refine bodyPost_ret (v := .slice (some ⟨b, 0, none⟩) i i) (by simp [results, Tryz.results244, go_sem]) rfl ⟨.inl ⟨HAL.out, b, g, rfl, HMD.out, HLT.out, fun r hr => (HI.out.rs.gl r hr).1⟩, HG.out.trans (HI.out.rs.low.mono HG.out.size)⟩
end Num.Mt
namespace Num.Mt
open Go.RowKit Go.Lib Num
structure UnJ (W : World) (b n i B G c : Nat) (g : Nat → Nat) (f : Nat → Rat) (wx : World) : Prop where
 rs : Rows W b n n i B g unitM (.slice (some ⟨G, 0, none⟩) n n) wx
 row : PRow wx G n c f
 gb : B ≤ G
theorem UnJ.step {W wx w' : World} {b n i B G c : Nat} {g : Nat → Nat} {f : Nat → Rat} (h : UnJ W b n i B G c g f wx) (hb : Below wx.heap.size wx w') : UnJ W b n i B G c g f w' := ⟨h.rs.step hb, h.row.below hb, h.gb⟩
theorem UnJ.put {W wx : World} {b n i B G c : Nat} {g : Nat → Nat} {f : Nat → Rat} (h : UnJ W b n i B G c g f wx) {j : Nat} (hj : j < n) (hc : j ≤ c) (q : Rat) : UnJ W b n i B G (max c (j + 1)) g (fun k => if k = j then q else f k) (putF wx G j q) :=
 ⟨h.rs.setF h.gb j q, h.row.put hj hc q, h.gb⟩
attribute [local irreducible] wpOp
set_option linter.unusedVariables false in
def unit_anyKs9 (n b i k G : Nat) (q0 : Rat) : List RK :=
 [.pure (.slice (some ⟨b, 0, none⟩) n n),
  .pure (.int .i64 (i : Int)),
  .pure (.pointer (some ⟨b, i, none⟩)),
  .pure (.slice (some ⟨G, 0, none⟩) n n),
  .pure (.int .i64 (k : Int)),
  .pure (.agg #[.string (numS q0), .string (denS q0)]),
  .pure (.pointer (some ⟨G, k * 2, none⟩)),
  .put 0]
set_option linter.unusedVariables false in
def unit_anyKs11 (n b i k G : Nat) (q1 : Rat) : List RK :=
 [.pure (.slice (some ⟨b, 0, none⟩) n n),
  .pure (.int .i64 (i : Int)),
  .pure (.pointer (some ⟨b, i, none⟩)),
  .pure (.slice (some ⟨G, 0, none⟩) n n),
  .pure (.int .i64 (i : Int)),
  .pure (.agg #[.string (numS q1), .string (denS q1)]),
  .pure (.pointer (some ⟨G, i * 2, none⟩)),
  .put 0]
set_option linter.unusedSimpArgs false in
set_option linter.unusedVariables false in
theorem unit_any (n : Nat) (W : World) (h0 : 1 ≤ n) (h9 : n ≤ 300) (hE : Env W) :
  Calls Tryz.prog 184 #[.int .i64 (n : Int)] W fun e w' => ∃ b g, e = .returned (.slice (some ⟨b, 0, none⟩) n n) ∧ MxAt w' b n n g unitM ∧ W.heap.size ≤ b ∧ (∀ r, r < n → b < g r) ∧ Below W.heap.size W w' := by
 have HE := hid hE
 have HE0 := hid hE
 have T0 := (fun W (h : Env W) => of_any 0 W (by decide) (by decide) h.tab)
 have T1 := (fun W (h : Env W) => of_any 1 W (by decide) (by decide) h.tab)
 obtain ⟨q0, hq0⟩ : ∃ q : Rat, ((0 : Int) : Rat) = q := ⟨_, rfl⟩
 obtain ⟨q1, hq1⟩ : ∃ q : Rat, ((1 : Int) : Rat) = q := ⟨_, rfl⟩
 rw [hq0, fracV_is q0] at T0
 rw [hq1, fracV_is q1] at T1
 replace T0 := hid T0
 replace T1 := hid T1
 have HQ0 := hid (show q0 = 0 from hq0.symm)
 have HQ1 := hid (show q1 = 1 from hq1.symm)
 clear hq0 hq1
 have hmk1 := make_rows n (by omega)
 have hmk2 := make_fracs n (by omega)
 have hb0 : Below W.heap.size W (W.alloc (.cells (madeCells #[.slice none 0 0] n) 148)) := (Below.refl _ _).alloc (Nat.le_refl _) _
 have HI0 := hid (Rows.start W.heap.size n n (fun _ => 0) unitM (heap_alloc_new W (.cells (madeCells #[.slice none 0 0] n) 148)) (size_madeCells _ _) (fun r hr => made_at _ _ _ hr) hb0 (Nat.le_refl _))
 clear hE hb0
 go_enter Tryz.func184, Tryz.ntmps184
 go_wp2_with fail
 obtain ⟨b, hb⟩ : ∃ b, W.heap.size = b := ⟨_, rfl⟩
 rw [hb] at HI0 ⊢
 have HB := hid hb
 clear hb
 go_loopg [9] n (fun gh v9 wx => ∃ (i B : Nat) (g : Nat → Nat), v9 = .int .i64 (i : Int) ∧ i ≤ n ∧ gh = n - i ∧ Rows W b n n i B g unitM (.slice none 0 0) wx)
 case atStart => exact ⟨0, _, _, rfl, Nat.zero_le _, rfl, HI0.out⟩
 case round =>
  clear HI0
  obtain ⟨i, B, g, rfl, hi, hgi, hI⟩ := hrel
  have HI := hid hI
  clear hI
  by_cases hlt : i < n
  ·skip
   have hdd : decide ((i : Int) < (n : Int)) = true := decide_eq_true (by omega)
   have hdd2 : decide (i < n) = true := decide_eq_true hlt
   have hi0 : (0 : Int) ≤ (i : Int) := by omega
   have hi1 : (i : Int) < (n : Int) := by omega
   have hwk : IntKind.i64.wrap ((i : Int) + 1) = (i : Int) + 1 := IntWalk.i64_in _ (by omega)
   have y0 := HI.out.cell hlt
   have z0 := HI.out.free i
   obtain ⟨w2, hw2⟩ : ∃ Z, wr.alloc (.cells (madeCells #[.string ⟨#[]⟩, .string ⟨#[]⟩] (n * 2)) 30) = Z := ⟨_, rfl⟩
   have hb2 : Below wr.heap.size wr w2 := by rw [← hw2]; exact (Below.refl _ _).alloc (Nat.le_refl _) _
   have y1 := (HI.out.step hb2).cell hlt
   have z1 := (HI.out.step hb2).free i
   have HP := hid (show PRow w2 wr.heap.size n 0 (fun _ => 0) from ⟨_, by rw [← hw2]; exact heap_alloc_new wr _, by rw [size_madeCells], fun j hj => absurd hj (Nat.not_lt_zero _)⟩)
   have HI2 := hid (HI.out.step hb2)
   have HGB := hid HI.out.bs
   rw [← hw2] at y1 z1
   have HW2 := hid hw2
   clear hb2 hw2
   go_upto_region 6 with fail
   clear y0 z0 y1 z1
   rw [HW2.out]
   clear HW2
   obtain ⟨G, hG⟩ : ∃ G, wr.heap.size = G := ⟨_, rfl⟩
   rw [hG] at HP HGB ⊢
   clear hG
   have HJ := hid (show UnJ W b n i B G 0 g (fun _ => 0) _ from ⟨HI2.out.store hlt (.slice (some ⟨G, 0, none⟩) n n), HP.out.keep (Below.heap_setCell w2 ⟨b, i, none⟩ _ G (by have := HI2.out.bl; have := HGB.out; simp only []; omega)), HGB.out⟩)
   clear HI HI2 HP
   obtain ⟨w3, hw3⟩ : ∃ Z, w2.setCell ⟨b, i, none⟩ (.slice (some ⟨G, 0, none⟩) n n) = Z := ⟨_, rfl⟩
   rw [hw3] at HJ ⊢
   clear hw3
   go_wp2_with fail
   go_loopg [18] n (fun gh v18 wx => ∃ k : Nat, v18 = .int .i64 (k : Int) ∧ k ≤ n ∧ gh = n - k ∧ UnJ W b n i B G k g (fun _ => 0) wx)
   case atStart => exact ⟨0, rfl, Nat.zero_le _, rfl, HJ.out⟩
   case round =>
    clear HJ
    obtain ⟨k, rfl, hk, hgk, hJ⟩ := hrel
    have HI := hid hJ
    clear hJ
    by_cases hkt : k < n
    ·skip
     have hke : decide ((k : Int) < (n : Int)) = true := decide_eq_true (by omega)
     have hke2 : decide (k < n) = true := decide_eq_true hkt
     have hk0 : (0 : Int) ≤ (k : Int) := by omega
     have hk1 : (k : Int) < (n : Int) := by omega
     have hkw : IntKind.i64.wrap ((k : Int) + 1) = (k : Int) + 1 := IntWalk.i64_in _ (by omega)
     replace HE := hid (HE0.out.below HI.out.rs.low)
     go_upto_region 9 with fail
     go_wp2_with fail
     have hok : okB 8 (unit_anyKs9 n b i k G q0) = true := by kernel_rfl
     have hna := noAny_of (ks := (unit_anyKs9 n b i k G q0)) (by kernel_rfl)
     have hla := lasts_of hna
     refine wp_region_facts_tail (row := none) (w := wr) 7 1 8 [7] (unit_anyKs9 n b i k G q0) [some 21, some 22, some 23, some 24, some 25, some 26, some 27, none] (by kernel_rfl) (by kernel_rfl) (by kernel_rfl) rfl rfl (by decide) rfl [u21, u22, u23, u24, u25, u26, u27, undef] ?h00 (Fs.start rfl rfl) ?hs ?hd
     case h00 => simp only [putO, layL]
     case hs =>
      rintro listed vs Wr hF i hi hun hpre
      obtain ⟨s0, s1, s2, s3, s4, s5, s6, s7, hvs⟩ := exl_of 8 vs (fun l => vs = l) hF.len rfl
      subst hvs
      have hge := Nat.zero_le i
      simp only [putO, layL]
      rcases Nat.lt_or_ge i 3 with hlt | hgt
      ·replace hi := hlt
       clear hlt
       rcases Nat.lt_or_ge i 1 with hlt | hgt
       ·replace hi := hlt
        clear hlt
        obtain rfl := eqi hi hge
        refine step_of ⟨some 21, _, _, _, _, _⟩ rfl (fun K' hK => ?_)
        go_simp
        refine hK.out _ _ ⟨_, hF.pure hok hla hpre rfl (Below.refl _ _), ?fr⟩
        case fr => simp only [putO, layL]
       ·replace hge : 1 ≤ i := hgt
        clear hgt
        rcases Nat.lt_or_ge i 2 with hlt | hgt
        ·replace hi := hlt
         clear hlt
         obtain rfl := eqi hi hge
         refine step_of ⟨some 22, _, _, _, _, _⟩ rfl (fun K' hK => ?_)
         go_simp
         refine hK.out _ _ ⟨_, hF.pure hok hla hpre rfl (Below.refl _ _), ?fr⟩
         case fr => simp only [putO, layL]
        ·replace hge : 2 ≤ i := hgt
         clear hgt
         obtain rfl := eqi hi hge
         have p0 := hpre 0 (by kernel_rfl)
         have e0 : s0 = .slice (some ⟨b, 0, none⟩) n n := hF.get 0 _ rfl (.inr p0)
         subst e0
         have p1 := hpre 1 (by kernel_rfl)
         have e1 : s1 = .int .i64 (i : Int) := hF.get 1 _ rfl (.inr p1)
         subst e1
         refine step_of ⟨some 23, _, _, _, _, _⟩ rfl (fun K' hK => ?_)
         go_simp
         refine hK.out _ _ ⟨_, hF.pure hok hla hpre rfl (Below.refl _ _), ?fr⟩
         case fr => simp only [putO, layL]
      ·replace hge : 3 ≤ i := hgt
       clear hgt
       rcases Nat.lt_or_ge i 5 with hlt | hgt
       ·replace hi := hlt
        clear hlt
        rcases Nat.lt_or_ge i 4 with hlt | hgt
        ·replace hi := hlt
         clear hlt
         obtain rfl := eqi hi hge
         have p2 := hpre 2 (by kernel_rfl)
         have e2 : s2 = .pointer (some ⟨b, i, none⟩) := hF.get 2 _ rfl (.inr p2)
         subst e2
         have y0 := (HI.out.step (below_none hF.low)).rs.cell hlt
         refine step_of ⟨some 24, _, _, _, _, _⟩ rfl (fun K' hK => ?_)
         go_simp
         refine hK.out _ _ ⟨_, hF.pure hok hla hpre rfl (Below.refl _ _), ?fr⟩
         case fr => simp only [putO, layL]
        ·replace hge : 4 ≤ i := hgt
         clear hgt
         obtain rfl := eqi hi hge
         refine step_of ⟨some 25, _, _, _, _, _⟩ rfl (fun K' hK => ?_)
         go_simp
         refine hK.out _ _ ⟨_, hF.pure hok hla hpre rfl (Below.refl _ _), ?fr⟩
         case fr => simp only [putO, layL]
       ·replace hge : 5 ≤ i := hgt
        clear hgt
        rcases Nat.lt_or_ge i 6 with hlt | hgt
        ·replace hi := hlt
         clear hlt
         obtain rfl := eqi hi hge
         refine step_of ⟨some 26, _, _, _, _, _⟩ rfl (fun K' hK => ?_)
         go_simp
         go_at_call 79
         (with_reducible refine (T0.out _ (HE.out.below (below_none hF.low))).mono ?_)
         rintro e Wq ⟨rfl, hq⟩
         refine hK.out _ _ ⟨_, hF.pure hok hla hpre rfl hq, ?fr⟩
         case fr => simp only [putO, layL]
        ·replace hge : 6 ≤ i := hgt
         clear hgt
         obtain rfl := eqi hi hge
         have p3 := hpre 3 (by kernel_rfl)
         have e3 : s3 = .slice (some ⟨G, 0, none⟩) n n := hF.get 3 _ rfl (.inr p3)
         subst e3
         have p4 := hpre 4 (by kernel_rfl)
         have e4 : s4 = .int .i64 (k : Int) := hF.get 4 _ rfl (.inr p4)
         subst e4
         refine step_of ⟨some 27, _, _, _, _, _⟩ rfl (fun K' hK => ?_)
         go_simp
         refine hK.out _ _ ⟨_, hF.pure hok hla hpre rfl (Below.refl _ _), ?fr⟩
         case fr => simp only [putO, layL]
     case hd =>
      rintro listed vs WA hF hall
      obtain ⟨s0, s1, s2, s3, s4, s5, s6, s7, hvs⟩ := exl_of 8 vs (fun l => vs = l) hF.len rfl
      subst hvs
      have e5 : s5 = .agg #[.string (numS q0), .string (denS q0)] := hF.get 5 _ rfl (.inr (hall 5 (by decide)))
      subst e5
      have e6 : s6 = .pointer (some ⟨G, k * 2, none⟩) := hF.get 6 _ rfl (.inr (hall 6 (by decide)))
      subst e6
      have hq := below_none hF.low
      replace HI := hid (HI.out.step hq)
      replace HE := hid (HE.out.below hq)
      clear hq
      clear hF hall hok hna hla
      simp only [putO, layL]
      obtain ⟨⟨_, y0⟩, z0⟩ := HI.out.row.any (j := k * 2) (by omega)
      obtain ⟨⟨_, y1⟩, z1⟩ := HI.out.row.any (j := k * 2 + 1) (by omega)
      refine rest_one 7 ⟨none, _, _, _, _, _⟩ rfl (by kernel_rfl) rfl (fun K' hK => ?_)
      go_simp
      refine hK.out _ _ ?_
      clear y0 y1 z0 z1
      refine rest_end ?_
      have HJ : Hid (UnJ W b n i B G (k + 1) g (fun _ => 0) ((WA.setCell ⟨G, k * 2, none⟩ (.string (numS q0))).setCell ⟨G, k * 2 + 1, none⟩ (.string (denS q0)))) := hid (by
       have h := HI.out.put hkt (Nat.le_refl _) q0
       exact ⟨h.rs, h.row.congr (by omega) (fun j _ => by rw [HQ0.out]; split <;> rfl), h.gb⟩)
      clear HI
      go_wp2
      go_roundg (n - (k + 1))
      case measure => omega
      case rel => exact ⟨k + 1, by go_num, by omega, by omega, HJ.out⟩
    ·have hke : decide ((k : Int) < (n : Int)) = false := decide_eq_false (by omega)
     have hke2 : decide (k < n) = false := decide_eq_false hkt
     have hkn : n = k := by omega
     subst hkn
     clear hkt
     replace HE := hid (HE0.out.below HI.out.rs.low)
     go_upto_region 11 with fail
     go_wp2_with fail
     have hok : okB 8 (unit_anyKs11 n b i i G q1) = true := by kernel_rfl
     have hna := noAny_of (ks := (unit_anyKs11 n b i i G q1)) (by kernel_rfl)
     have hla := lasts_of hna
     refine wp_region_facts_tail (row := none) (w := wr) 7 1 8 [7] (unit_anyKs11 n b i i G q1) [some 29, some 30, some 31, some 32, some 33, some 34, some 35, none] (by kernel_rfl) (by kernel_rfl) (by kernel_rfl) rfl rfl (by decide) rfl [u29, u30, u31, u32, u33, u34, u35, undef] ?h00 (Fs.start rfl rfl) ?hs ?hd
     case h00 => simp only [putO, layL]
     case hs =>
      rintro listed vs Wr hF i hi hun hpre
      obtain ⟨s0, s1, s2, s3, s4, s5, s6, s7, hvs⟩ := exl_of 8 vs (fun l => vs = l) hF.len rfl
      subst hvs
      have hge := Nat.zero_le i
      simp only [putO, layL]
      rcases Nat.lt_or_ge i 3 with hlt | hgt
      ·replace hi := hlt
       clear hlt
       rcases Nat.lt_or_ge i 1 with hlt | hgt
       ·replace hi := hlt
        clear hlt
        obtain rfl := eqi hi hge
        refine step_of ⟨some 29, _, _, _, _, _⟩ rfl (fun K' hK => ?_)
        go_simp
        refine hK.out _ _ ⟨_, hF.pure hok hla hpre rfl (Below.refl _ _), ?fr⟩
        case fr => simp only [putO, layL]
       ·replace hge : 1 ≤ i := hgt
        clear hgt
        rcases Nat.lt_or_ge i 2 with hlt | hgt
        ·replace hi := hlt
         clear hlt
         obtain rfl := eqi hi hge
         refine step_of ⟨some 30, _, _, _, _, _⟩ rfl (fun K' hK => ?_)
         go_simp
         refine hK.out _ _ ⟨_, hF.pure hok hla hpre rfl (Below.refl _ _), ?fr⟩
         case fr => simp only [putO, layL]
        ·replace hge : 2 ≤ i := hgt
         clear hgt
         obtain rfl := eqi hi hge
         have p0 := hpre 0 (by kernel_rfl)
         have e0 : s0 = .slice (some ⟨b, 0, none⟩) n n := hF.get 0 _ rfl (.inr p0)
         subst e0
         have p1 := hpre 1 (by kernel_rfl)
         have e1 : s1 = .int .i64 (i : Int) := hF.get 1 _ rfl (.inr p1)
         subst e1
         refine step_of ⟨some 31, _, _, _, _, _⟩ rfl (fun K' hK => ?_)
         go_simp
         refine hK.out _ _ ⟨_, hF.pure hok hla hpre rfl (Below.refl _ _), ?fr⟩
         case fr => simp only [putO, layL]
      ·replace hge : 3 ≤ i := hgt
       clear hgt
       rcases Nat.lt_or_ge i 5 with hlt | hgt
       ·replace hi := hlt
        clear hlt
        rcases Nat.lt_or_ge i 4 with hlt | hgt
        ·replace hi := hlt
         clear hlt
         obtain rfl := eqi hi hge
         have p2 := hpre 2 (by kernel_rfl)
         have e2 : s2 = .pointer (some ⟨b, i, none⟩) := hF.get 2 _ rfl (.inr p2)
         subst e2
         have y0 := (HI.out.step (below_none hF.low)).rs.cell hlt
         refine step_of ⟨some 32, _, _, _, _, _⟩ rfl (fun K' hK => ?_)
         go_simp
         refine hK.out _ _ ⟨_, hF.pure hok hla hpre rfl (Below.refl _ _), ?fr⟩
         case fr => simp only [putO, layL]
        ·replace hge : 4 ≤ i := hgt
         clear hgt
         obtain rfl := eqi hi hge
         refine step_of ⟨some 33, _, _, _, _, _⟩ rfl (fun K' hK => ?_)
         go_simp
         refine hK.out _ _ ⟨_, hF.pure hok hla hpre rfl (Below.refl _ _), ?fr⟩
         case fr => simp only [putO, layL]
       ·replace hge : 5 ≤ i := hgt
        clear hgt
        rcases Nat.lt_or_ge i 6 with hlt | hgt
        ·replace hi := hlt
         clear hlt
         obtain rfl := eqi hi hge
         refine step_of ⟨some 34, _, _, _, _, _⟩ rfl (fun K' hK => ?_)
         go_simp
         go_at_call 79
         (with_reducible refine (T1.out _ (HE.out.below (below_none hF.low))).mono ?_)
         rintro e Wq ⟨rfl, hq⟩
         refine hK.out _ _ ⟨_, hF.pure hok hla hpre rfl hq, ?fr⟩
         case fr => simp only [putO, layL]
        ·replace hge : 6 ≤ i := hgt
         clear hgt
         obtain rfl := eqi hi hge
         have p3 := hpre 3 (by kernel_rfl)
         have e3 : s3 = .slice (some ⟨G, 0, none⟩) n n := hF.get 3 _ rfl (.inr p3)
         subst e3
         have p4 := hpre 4 (by kernel_rfl)
         have e4 : s4 = .int .i64 (i : Int) := hF.get 4 _ rfl (.inr p4)
         subst e4
         refine step_of ⟨some 35, _, _, _, _, _⟩ rfl (fun K' hK => ?_)
         go_simp
         refine hK.out _ _ ⟨_, hF.pure hok hla hpre rfl (Below.refl _ _), ?fr⟩
         case fr => simp only [putO, layL]
     case hd =>
      rintro listed vs WA hF hall
      obtain ⟨s0, s1, s2, s3, s4, s5, s6, s7, hvs⟩ := exl_of 8 vs (fun l => vs = l) hF.len rfl
      subst hvs
      have e5 : s5 = .agg #[.string (numS q1), .string (denS q1)] := hF.get 5 _ rfl (.inr (hall 5 (by decide)))
      subst e5
      have e6 : s6 = .pointer (some ⟨G, i * 2, none⟩) := hF.get 6 _ rfl (.inr (hall 6 (by decide)))
      subst e6
      have hq := below_none hF.low
      replace HI := hid (HI.out.step hq)
      replace HE := hid (HE.out.below hq)
      clear hq
      clear hF hall hok hna hla
      simp only [putO, layL]
      obtain ⟨⟨_, y0⟩, z0⟩ := HI.out.row.any (j := i * 2) (by omega)
      obtain ⟨⟨_, y1⟩, z1⟩ := HI.out.row.any (j := i * 2 + 1) (by omega)
      refine rest_one 7 ⟨none, _, _, _, _, _⟩ rfl (by kernel_rfl) rfl (fun K' hK => ?_)
      go_simp
      refine hK.out _ _ ?_
      clear y0 y1 z0 z1
      refine rest_end ?_
      have HJ : Hid (Rows W b n n (i + 1) _ (fun r => if r = i then G else g r) unitM (.slice none 0 0) ((WA.setCell ⟨G, i * 2, none⟩ (.string (numS q1))).setCell ⟨G, i * 2 + 1, none⟩ (.string (denS q1)))) := hid (by
       have h := HI.out.put hlt (by omega) q1
       refine h.rs.next hlt h.gb ((h.row.congr (c' := n) (by omega) (fun j _ => rfl)).full fun c _ => ?_)
       unfold unitM
       by_cases e : i = c
       ·subst e; rw [if_pos rfl, if_pos rfl, HQ1.out]
       ·rw [if_neg e, if_neg (fun h => e h.symm)])
      clear HI
      go_wp2
      go_roundg (n - (i + 1))
      case measure => omega
      case rel => exact ⟨i + 1, _, _, by go_num, by omega, by omega, HJ.out⟩
  ·have hdd : decide ((i : Int) < (n : Int)) = false := decide_eq_false (by omega)
   have hdd2 : decide (i < n) = false := decide_eq_false hlt
   have hin : i = n := by omega
   subst hin
   clear hlt
   have HM := hid HI.out.done
   go_wp2
   refine bodyPost_ret (v := .slice (some ⟨b, 0, none⟩) i i) (by simp [results, Tryz.results184, go_sem]) rfl ⟨b, g, rfl, HM.out, Nat.le_of_eq HB.out, fun r hr => (HI.out.gl r hr).1, HI.out.low⟩
end Num.Mt
namespace Num.Mt
open Go.RowKit Go.Lib Num
structure ElI (W : World) (base bm bo R D n : Nat) (gm go : Nat → Nat) (m out : Mx) (d : Rat) (wx : World) : Prop where
 m : MxAt wx bm n n gm m
 o : MxAt wx bo n n go out
 res : wx.heap[R]? = some (.cells #[.string ⟨#[]⟩, .string ⟨#[]⟩] 30 (0, 0))
 det : wx.heap[D]? = some (.cells #[.string (numS d), .string (denS d)] 30 (0, 0))
 lm : bm < R ∧ ∀ r, r < n → gm r < R
 lo : R < bo ∧ bo < D ∧ ∀ r, r < n → R < go r ∧ go r < D
 ge : base ≤ bm ∧ base ≤ R ∧ ∀ r, r < n → base ≤ gm r
 low : Below base W wx
section
variable {W wx : World} {base bm bo R D n : Nat} {gm go : Nat → Nat} {m out : Mx} {d : Rat}
theorem ElI.step (h : ElI W base bm bo R D n gm go m out d wx) {w' : World} (hb : Below wx.heap.size wx w') : ElI W base bm bo R D n gm go m out d w' :=
 ⟨h.m.below hb, h.o.below hb, keep_block h.res hb, keep_block h.det hb, h.lm, h.lo, h.ge, h.low.trans (hb.mono (Nat.le_trans (Nat.le_trans h.ge.2.1 (Nat.le_of_lt (heap_lt h.res))) (Nat.le_refl _)))⟩
theorem ElI.env (h : ElI W base bm bo R D n gm go m out d wx) (hE : Env W) (hP : Past base) : Env wx := hE.low h.low.block hP h.low.size
theorem ElI.setm (h : ElI W base bm bo R D n gm go m out d wx) {r c : Nat} (hr : r < n) (hc : c < n) (q : Rat) : ElI W base bm bo R D n gm go (setM m r c q) out d (putF wx (gm r) c q) := by
 have h1 := h.lm.2 r hr
 have h2 := h.lo
 exact ⟨h.m.put hr hc q, h.o.other (by omega) (fun s hs => by have := h2.2.2 s hs; omega) c q, (putF_other wx _ c q (by omega)).trans h.res, (putF_other wx _ c q (by omega)).trans h.det, h.lm, h.lo, h.ge, putF_below h.low (h.ge.2.2 r hr) c q⟩
theorem ElI.setd (h : ElI W base bm bo R D n gm go m out d wx) (q : Rat) : ElI W base bm bo R D n gm go m out q ((wx.setCell ⟨D, 0, none⟩ (.string (numS q))).setCell ⟨D, 1, none⟩ (.string (denS q))) := by
 have h1 := h.lm
 have h2 := h.lo
 have h3 := h.ge.2.1
 have hd := set2_at h.det (.string (numS q)) (.string (denS q))
 have ho : ∀ k, k ≠ D → ((wx.setCell ⟨D, 0, none⟩ (.string (numS q))).setCell ⟨D, 1, none⟩ (.string (denS q))).heap[k]? = wx.heap[k]? := fun k hk => set2_other wx D (.string (numS q)) (.string (denS q)) hk
 exact ⟨h.m.keep (ho _ (by omega)) (fun r hr => ho _ (by have := h1.2 r hr; omega)), h.o.keep (ho _ (by omega)) (fun r hr => ho _ (by have := h2.2.2 r hr; omega)), (ho _ (by omega)).trans h.res, hd, h.lm, h.lo, h.ge, h.low.trans (put2_below (by omega) wx _ _)⟩
theorem ElI.swap (h : ElI W base bm bo R D n gm go m out d wx) {i k : Nat} (hi : i < n) (hk : k < n) (C1 C2 C3 C4 : Nat) :
  ElI W base bm bo R D n (swapF gm i k) (swapF go i k) (swapM m i k) (swapM out i k) d
   (swapW (swapW wx bm i k (.slice (some ⟨gm k, 0, none⟩) n C1) (.slice (some ⟨gm i, 0, none⟩) n C2)) bo i k (.slice (some ⟨go k, 0, none⟩) n C3) (.slice (some ⟨go i, 0, none⟩) n C4)) := by
 have h1 := h.lm
 have h2 := h.lo
 have h3 := h.ge
 have sw : ∀ (g : Nat → Nat) (P : Nat → Prop), (∀ r, r < n → P (g r)) → ∀ r, r < n → P (swapF g i k r) := by
  intro g P hp r hr
  unfold swapF
  split
  ·exact hp k hk
  ·split
   ·exact hp i hi
   ·exact hp r hr
 have hm := h.m.swap hi hk C1 C2
 have ho := h.o.swap_other (x := bm) (by omega) (fun r hr => by have := h2.2.2 r hr; omega) i k (.slice (some ⟨gm k, 0, none⟩) n C1) (.slice (some ⟨gm i, 0, none⟩) n C2)
 have hm2 := hm.swap_other (x := bo) (by omega) (sw gm (fun x => bo ≠ x) (fun r hr => by have := h1.2 r hr; omega)) i k (.slice (some ⟨go k, 0, none⟩) n C3) (.slice (some ⟨go i, 0, none⟩) n C4)
 have ho2 := ho.swap hi hk C3 C4
 refine ⟨hm2, ho2, ?_, ?_, ⟨h1.1, sw gm (fun x => x < R) h1.2⟩, ⟨h2.1, h2.2.1, sw go (fun x => R < x ∧ x < D) h2.2.2⟩, ⟨h3.1, h3.2.1, sw gm (fun x => base ≤ x) h3.2.2⟩, ?_⟩
 ·exact (swapW_other _ bo i k _ _ (by omega)).trans ((swapW_other _ bm i k _ _ (by omega)).trans h.res)
 ·exact (swapW_other _ bo i k _ _ (by omega)).trans ((swapW_other _ bm i k _ _ (by omega)).trans h.det)
 ·exact ((((h.low.setCell (p := ⟨bm, i, none⟩) h3.1 _).setCell (p := ⟨bm, k, none⟩) h3.1 _).setCell (p := ⟨bo, i, none⟩) (by simp only []; omega) _).setCell (p := ⟨bo, k, none⟩) (by simp only []; omega) _)
theorem ElI.congr (h : ElI W base bm bo R D n gm go m out d wx) {m' out' : Mx} (hm : ∀ r c, r < n → c < n → m' r c = m r c) (ho : ∀ r c, r < n → c < n → out' r c = out r c) : ElI W base bm bo R D n gm go m' out' d wx :=
 ⟨h.m.congr hm, h.o.congr ho, h.res, h.det, h.lm, h.lo, h.ge, h.low⟩
theorem ElI.var (h : ElI W base bm bo R D n gm go m out d wx) {F : Nat} {q : Rat} (hF : wx.heap[F]? = some (.cells #[.string (numS q), .string (denS q)] 30 (0, 0))) (hD : D < F) {r c : Nat} (hr : r < n) (x : Rat) :
  (putF wx (gm r) c x).heap[F]? = some (.cells #[.string (numS q), .string (denS q)] 30 (0, 0)) ∧ (putF wx (go r) c x).heap[F]? = some (.cells #[.string (numS q), .string (denS q)] 30 (0, 0)) := by
 have h1 := h.lm.2 r hr
 have h2 := h.lo.2.2 r hr
 have h3 := h.lo
 exact ⟨(putF_other wx _ c x (by omega)).trans hF, (putF_other wx _ c x (by omega)).trans hF⟩
end
def colsM (m : Mx) (j : Nat) (f : Nat → Rat) (k : Nat) : Mx := fun r c => if r = j ∧ c < k then f c else m r c
theorem colsM_zero (m : Mx) (j : Nat) (f : Nat → Rat) : colsM m j f 0 = m := by
 funext r c
 unfold colsM
 rw [if_neg (by omega)]
theorem colsM_succ (m : Mx) (j : Nat) (f : Nat → Rat) (k : Nat) : colsM m j f (k + 1) = setM (colsM m j f k) j k (f k) := by
 funext r c
 show (if r = j ∧ c < k + 1 then f c else m r c) = if r = j ∧ c = k then f k else if r = j ∧ c < k then f c else m r c
 by_cases e : r = j ∧ c = k
 ·rw [if_pos e, if_pos ⟨e.1, by omega⟩, e.2]
 ·rw [if_neg e]
  by_cases e2 : r = j ∧ c < k
  ·rw [if_pos e2, if_pos ⟨e2.1, by omega⟩]
  ·rw [if_neg e2, if_neg (by omega)]
theorem colsM_at {m : Mx} {j : Nat} {f : Nat → Rat} {k r c : Nat} (h : r ≠ j ∨ k ≤ c) : colsM m j f k r c = m r c := by
 unfold colsM
 rw [if_neg (by omega)]
end Num.Mt
namespace Num
structure Pv (n i : Nat) (m : Mx) (k : Nat) : Prop where
 ge : i ≤ k
 lt : k < n
 zero : ∀ r, i ≤ r → r < k → m r i = 0
 nz : m k i ≠ 0
theorem Pv.uniq {n i k l : Nat} {m : Mx} (h : Pv n i m k) (h' : Pv n i m l) : k = l := by
 rcases Nat.lt_trichotomy k l with e | e | e
 ·exact absurd (h'.zero k h.ge e) h.nz
 ·exact e
 ·exact absurd (h.zero l h'.ge e) h'.nz
def pvM (m : Mx) (i k : Nat) : Mx := if k = i then m else swapM m i k
def pvD (d : Rat) (i k : Nat) : Rat := if k = i then d else -d
theorem pvM_at (m : Mx) (i k : Nat) : pvM m i k i = m k := by
 unfold pvM
 split
 ·rename_i h; rw [h]
 ·exact if_pos rfl
inductive Ep (n : Nat) (M : Mx) : Nat → Mx → Rat → Prop
 | start : Ep n M 0 M 1
 | next {i k : Nat} {m : Mx} {d : Rat} (h : Ep n M i m d) (hp : Pv n i m k) : Ep n M (i + 1) (rowsM false i (pvM m i k) (pvM m i k) n) (pvD d i k * pvM m i k i i)
theorem Ep.uniq {n i : Nat} {M m m' : Mx} {d d' : Rat} (h : Ep n M i m d) (h' : Ep n M i m' d') : m = m' ∧ d = d' := by
 induction h generalizing m' d' with
 | start => cases h'; exact ⟨rfl, rfl⟩
 | next h hp ih =>
  cases h' with
  | next h2 hp2 =>
   obtain ⟨e1, e2⟩ := ih h2
   subst e1; subst e2
   obtain e3 := hp.uniq hp2
   subst e3
   exact ⟨rfl, rfl⟩
theorem Ep.el {n i : Nat} {M m : Mx} {d : Rat} (h : Ep n M i m d) : El n M i m d := by
 induction h with
 | start => exact .start
 | @next i k m d h hp ih =>
  have hnz : pvM m i k i i ≠ 0 := by rw [pvM_at]; exact hp.nz
  have hlt := Nat.lt_of_le_of_lt hp.ge hp.lt
  unfold pvM at hnz ⊢
  unfold pvD
  by_cases e : k = i
  ·simp only [if_pos e] at hnz ⊢
   exact ih.next hlt hnz
  ·simp only [if_neg e] at hnz ⊢
   exact (ih.swap (by have := hp.ge; omega) hp.lt).next hlt hnz
def PvSt (n : Nat) (M : Mx) (i : Nat) (m' : Mx) (d' : Rat) : Prop := ∃ m d k, Ep n M i m d ∧ Pv n i m k ∧ m' = pvM m i k ∧ d' = pvD d i k
section
variable {n i : Nat} {M m' : Mx} {d' : Rat}
theorem PvSt.nz (h : PvSt n M i m' d') : m' i i ≠ 0 := by
 obtain ⟨m, d, k, _, hp, rfl, _⟩ := h
 rw [pvM_at]; exact hp.nz
theorem PvSt.lt (h : PvSt n M i m' d') : i < n := by
 obtain ⟨m, d, k, _, hp, _⟩ := h
 exact Nat.lt_of_le_of_lt hp.ge hp.lt
theorem PvSt.next (h : PvSt n M i m' d') : Ep n M (i + 1) (rowsM false i m' m' n) (d' * m' i i) := by
 obtain ⟨m, d, k, he, hp, rfl, rfl⟩ := h
 exact he.next hp
theorem PvSt.uniq (h : PvSt n M i m' d') {m2 : Mx} {d2 : Rat} (h2 : PvSt n M i m2 d2) : m' = m2 ∧ d' = d2 := by
 obtain ⟨m, d, k, he, hp, rfl, rfl⟩ := h
 obtain ⟨u, e, l, he2, hp2, rfl, rfl⟩ := h2
 obtain ⟨e1, e2⟩ := he.uniq he2
 subst e1; subst e2
 have := hp.uniq hp2
 subst this
 exact ⟨rfl, rfl⟩
theorem PvSt.el (h : PvSt n M i m' d') : El n M i m' d' := by
 obtain ⟨m, d, k, he, hp, rfl, rfl⟩ := h
 unfold pvM pvD
 by_cases e : k = i
 ·simp only [if_pos e]; exact he.el
 ·simp only [if_neg e]; exact he.el.swap (by have := hp.ge; omega) hp.lt
end
theorem PvSt.same {n i : Nat} {M m : Mx} {d : Rat} (h : Ep n M i m d) (hi : i < n) (hz : m i i ≠ 0) : PvSt n M i m d :=
 ⟨m, d, i, h, ⟨Nat.le_refl _, hi, fun r h1 h2 => absurd h1 (by omega), hz⟩, (if_pos rfl).symm, (if_pos rfl).symm⟩
theorem PvSt.swap {n i k : Nat} {M m : Mx} {d : Rat} (h : Ep n M i m d) (hi : i < k) (hp : Pv n i m k) : PvSt n M i (swapM m i k) (-d) :=
 ⟨m, d, k, h, hp, (if_neg (by omega)).symm, (if_neg (by omega)).symm⟩
def Over (n : Nat) (M : Mx) : Prop := ∃ i m d, PvSt n M i m d ∧ ¬ ElFit n i m d
def Fine (n : Nat) (M : Mx) (i : Nat) : Prop := ∀ j, j < i → ∀ m d, PvSt n M j m d → ElFit n j m d
theorem Fine.start (n : Nat) (M : Mx) : Fine n M 0 := fun _ h => absurd h (Nat.not_lt_zero _)
theorem Fine.next {n i : Nat} {M m : Mx} {d : Rat} (h : Fine n M i) (hp : PvSt n M i m d) (hf : ElFit n i m d) : Fine n M (i + 1) := by
 intro j hj m2 d2 h2
 by_cases e : j = i
 ·subst e
  obtain ⟨rfl, rfl⟩ := hp.uniq h2
  exact hf
 ·exact h j (by omega) m2 d2 h2
theorem Fine.all {n : Nat} {M : Mx} (h : Fine n M n) : ¬ Over n M := by
 rintro ⟨i, m, d, hp, hn⟩
 exact hn (h i hp.lt m d hp)
theorem Ep.prev {n i j : Nat} {M m : Mx} {d : Rat} (h : Ep n M j m d) (hij : i < j) : ∃ u e k, Ep n M i u e ∧ Pv n i u k := by
 induction h with
 | start => exact absurd hij (Nat.not_lt_zero _)
 | @next j k m d h hp ih =>
  by_cases e : i = j
  ·subst e; exact ⟨m, d, k, h, hp⟩
  ·exact ih (by omega)
theorem Fine.stop {n i : Nat} {M m : Mx} {d : Rat} (h : Fine n M i) (he : Ep n M i m d) (hz : ∀ r, i ≤ r → r < n → m r i = 0) : ¬ Over n M := by
 have key : ∀ u e k, Ep n M i u e → Pv n i u k → False := by
  intro u e k h1 h2
  obtain ⟨rfl, rfl⟩ := he.uniq h1
  exact h2.nz (hz k h2.ge h2.lt)
 rintro ⟨j, m2, d2, hp, hn⟩
 rcases Nat.lt_trichotomy j i with e | e | e
 ·exact hn (h j e m2 d2 hp)
 ·subst e
  obtain ⟨u, x, k, h1, h2, _⟩ := hp
  exact key u x k h1 h2
 ·obtain ⟨u, x, k, h1, h2, _⟩ := hp
  obtain ⟨u', x', k', h3, h4⟩ := h1.prev e
  exact key u' x' k' h3 h4
structure RowFit (n i : Nat) (m : Mx) (r : Nat) : Prop where
 q : fits (m r i / m i i) = true
 p : ∀ c, c < n → fits (m r i / m i i * m i c) = true
 s : ∀ c, c < n → fits (m r c - m r i / m i i * m i c) = true
theorem elFit_of {n i : Nat} {m : Mx} {d : Rat} (hd : fits (d * m i i) = true) (h : ∀ r, i < r → r < n → RowFit n i m r) : ElFit n i m d :=
 ⟨hd, fun r h1 h2 => (h r h1 h2).q, fun r c h1 h2 hc => (h r h1 h2).p c hc, fun r c h1 h2 hc => (h r h1 h2).s c hc⟩
theorem RowFit.zero {n i r : Nat} {m : Mx} (hz : m r i = 0) (h0 : fits (0 : Rat) = true) (hf : ∀ c, c < n → fits (m r c) = true) : RowFit n i m r := by
 have e : m r i / m i i = 0 := by rw [hz, Rat.div_def, Rat.zero_mul]
 refine ⟨by rw [e]; exact h0, fun c _ => by rw [e, Rat.zero_mul]; exact h0, fun c hc => ?_⟩
 rw [e, Rat.zero_mul, show m r c - (0 : Rat) = m r c by grind]
 exact hf c hc
theorem Over.heavy {n : Nat} {qs : List Rat} (h : Over n (matQ qs n)) (h5 : n ≤ 5) (hl : qs.length = n * n) : 40 < (qs.map wq).sum := by
 rcases Nat.lt_or_ge 40 (qs.map wq).sum with h1 | h1
 ·exact h1
 exfalso
 obtain ⟨i, m, d, hp, hn⟩ := h
 rcases Nat.lt_or_ge n 5 with h4 | h4
 ·exact hn (hp.el.light (by omega) hl h1 hp.lt hp.nz)
 ·have := wq_sum qs
  obtain rfl : n = 5 := by omega
  omega
theorem pv_or (n i : Nat) (m : Mx) : ∀ k, k ≤ n → (∀ r, i ≤ r → r < k → m r i = 0) ∨ ∃ k, Pv n i m k
 | 0, _ => .inl fun r _ h => absurd h (Nat.not_lt_zero _)
 | k + 1, hk => by
  rcases pv_or n i m k (by omega) with h | h
  ·by_cases hz : m k i = 0
   ·refine .inl fun r h1 h2 => ?_
    by_cases e : r = k
    ·rw [e]; exact hz
    ·exact h r h1 (by omega)
   ·by_cases hik : i ≤ k
    ·exact .inr ⟨k, hik, by omega, fun r h1 h2 => h r h1 h2, hz⟩
    ·exact .inl fun r h1 h2 => by omega
  ·exact .inr h
theorem ep_or {n : Nat} {M : Mx} (h5 : n ≤ 5) (h1 : fits (1 : Rat) = true) (h : ¬ Over n M) : ∀ i, i ≤ n → (∃ m d, Ep n M i m d ∧ fits d = true) ∨ detR n M = 0
 | 0, _ => .inl ⟨M, 1, .start, h1⟩
 | i + 1, hi => by
  rcases ep_or h5 h1 h i (by omega) with ⟨m, d, he, _⟩ | h0
  ·rcases pv_or n i m n (Nat.le_refl _) with hz | ⟨k, hp⟩
   ·obtain ⟨s, hs⟩ := he.el.st h5
    exact .inr (hs.none h5 (by omega) hz)
   ·have hp2 : PvSt n M i (pvM m i k) (pvD d i k) := ⟨m, d, k, he, hp, rfl, rfl⟩
    have hf : ElFit n i (pvM m i k) (pvD d i k) := Classical.byContradiction fun hn => h ⟨i, _, _, hp2, hn⟩
    exact .inl ⟨_, _, he.next hp, hf.d⟩
  ·exact .inr h0
theorem det_fits {n : Nat} {M : Mx} (h5 : n ≤ 5) (h1 : fits (1 : Rat) = true) (hz : fits (0 : Rat) = true) (h : ¬ Over n M) : fits (detR n M) = true := by
 rcases ep_or h5 h1 h n (Nat.le_refl _) with ⟨m, d, he, hd⟩ | h0
 ·obtain ⟨s, hs⟩ := he.el.st h5
  rw [← hs.done h5]; exact hd
 ·rw [h0]; exact hz
end Num
namespace Num
open Go.RowKit Go.Lib
theorem fm_sub_over (p q : Rat) (w : World) (hp : fits p = true) (hq : fits q = true) (hr : fits (p - q) = false) (hE : Env w) : Calls Tryz.prog 150 #[fracV p, fracV q] w fun e w' => e = stopped 5 ∧ Below w.heap.size w w' := by
 have T1 := hid (fun W g => sub_any p q W hp hq g)
 have T2 := hid (fun W => must_num 19 W (by decide) (by decide))
 rw [wroteV_no hr] at T1
 rw [noFrac_is] at T1 T2
 rw [fracV_is p, fracV_is q] at T1 ⊢
 obtain ⟨_, _, hr', hb⟩ := three_new w (.cells #[.string (numS p), .string (denS p)] 30) (.cells #[.string (numS q), .string (denS q)] 30) (.cells #[.string ⟨#[]⟩, .string ⟨#[]⟩] 30)
 have HL := hid hb
 have HE := hid (hE.below hb)
 clear hr' hb hE hp hq hr
 go_enter Tryz.func150, Tryz.ntmps150
 go_wp2_with fail
 refine (T1.out _ HE.out.tab).mono ?_
 rintro e W1 ⟨rfl, hb⟩
 replace HL := hid (HL.out.trans (hb.mono HL.out.size))
 clear hb
 go_wp2_with fail
 refine (T2.out _).mono ?_
 rintro e W2 ⟨rfl, hb⟩
 replace HL := hid (HL.out.trans (hb.mono HL.out.size))
 clear hb
 unfold stopped
 go_wp2
 exact ⟨rfl, rfl, HL.out⟩
theorem fm_mul_over (p q : Rat) (w : World) (hp : fits p = true) (hq : fits q = true) (hr : fits (p * q) = false) (hE : Env w) : Calls Tryz.prog 147 #[fracV p, fracV q] w fun e w' => e = stopped 5 ∧ Below w.heap.size w w' := by
 have T1 := hid (fun W g => mul_any p q W hp hq g)
 have T2 := hid (fun W => must_num 19 W (by decide) (by decide))
 rw [wroteV_no hr] at T1
 rw [noFrac_is] at T1 T2
 rw [fracV_is p, fracV_is q] at T1 ⊢
 obtain ⟨_, _, hr', hb⟩ := three_new w (.cells #[.string (numS p), .string (denS p)] 30) (.cells #[.string (numS q), .string (denS q)] 30) (.cells #[.string ⟨#[]⟩, .string ⟨#[]⟩] 30)
 have HL := hid hb
 have HE := hid (hE.below hb)
 clear hr' hb hE hp hq hr
 go_enter Tryz.func147, Tryz.ntmps147
 go_wp2_with fail
 refine (T1.out _ HE.out.tab).mono ?_
 rintro e W1 ⟨rfl, hb⟩
 replace HL := hid (HL.out.trans (hb.mono HL.out.size))
 clear hb
 go_wp2_with fail
 refine (T2.out _).mono ?_
 rintro e W2 ⟨rfl, hb⟩
 replace HL := hid (HL.out.trans (hb.mono HL.out.size))
 clear hb
 unfold stopped
 go_wp2
 exact ⟨rfl, rfl, HL.out⟩
theorem fm_div_over (p q : Rat) (w : World) (hp : fits p = true) (hq : fits q = true) (h0 : q ≠ 0) (hr : fits (p / q) = false) (hE : Env w) : Calls Tryz.prog 100 #[fracV p, fracV q] w fun e w' => e = stopped 5 ∧ Below w.heap.size w w' := by
 have T1 := hid (fun W g => div_any p q W hp hq h0 g)
 have T2 := hid (fun W => must_num 19 W (by decide) (by decide))
 rw [wroteV_no hr] at T1
 rw [noFrac_is] at T1 T2
 rw [fracV_is p, fracV_is q] at T1 ⊢
 obtain ⟨_, _, hr', hb⟩ := three_new w (.cells #[.string (numS p), .string (denS p)] 30) (.cells #[.string (numS q), .string (denS q)] 30) (.cells #[.string ⟨#[]⟩, .string ⟨#[]⟩] 30)
 have HL := hid hb
 have HE := hid (hE.below hb)
 clear hr' hb hE hp hq hr h0
 go_enter Tryz.func100, Tryz.ntmps100
 go_wp2_with fail
 refine (T1.out _ HE.out.tab).mono ?_
 rintro e W1 ⟨rfl, hb⟩
 replace HL := hid (HL.out.trans (hb.mono HL.out.size))
 clear hb
 go_wp2_with fail
 refine (T2.out _).mono ?_
 rintro e W2 ⟨rfl, hb⟩
 replace HL := hid (HL.out.trans (hb.mono HL.out.size))
 clear hb
 unfold stopped
 go_wp2
 exact ⟨rfl, rfl, HL.out⟩
end Num
end Go.Proofs.YtjcdeeahjkfmoaaGreatDoor
