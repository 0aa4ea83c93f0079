/- Numbers as texts of digits, fractions, values and the functions of fmath: contracts of the program's functions, joined from smaller texts. Conditions stand at each theorem. -/
import Derived.Laws.OwnMore
import Derived.Test.YtemdjmaakajhjaaGreatDoorFtaA

/- Append to a row of the call's own: what comes lies in the row's block or in a new one. Plain: of no program. -/
namespace Go.Proofs.YtemdjmaakajhjaaGreatDoor.Num
open Go

/-- the row's block is the old one, or it is new -/
def Apart (w : World) (v v' : Value) : Prop := v'.ownBlock = v.ownBlock ∨ ∃ g, v'.ownBlock = some g ∧ w.heap.size ≤ g
theorem Apart.ne {w : World} {v v' u : Value} (h : Apart w v v') (hu : ∀ k, u.ownBlock = some k → k < w.heap.size) (hne : u.ownBlock = none ∨ v.ownBlock ≠ u.ownBlock) : u.ownBlock = none ∨ v'.ownBlock ≠ u.ownBlock := by
  rcases hne with h0 | h0
  · exact .inl h0
  · right
    rcases h with h | ⟨g, hg, hge⟩
    · rw [h]; exact h0
    · intro e
      rw [hg] at e
      have := hu g e.symm
      omega
theorem run_append_apart {P : Program} (w : World) (base : Nat) (t ty e : TypeId) (i : TypeInfo) (z : Value) (size bytes : Nat) (ht : P.underlying t = some (.slice e)) (hi : P.info? e = some i) (hz : i.zero = some z)
    (hsize : i.size = size) (hby : i.bytes = bytes) (hzs : z.cells.size = size) (hsz : 0 < size)
    (v : Value) (n : Nat) (xs : List Value) (hown : w.ownsRow base e size v n xs)
    (a : Addr) (m c : Nat) (news : List Value) (hl : news.length = m * size) (hnews : ∀ j u, news[j]? = some u → w.cell? (a.add j) = some u) (h1 : ∀ u ∈ news, u.oneCell' = true)
    (h63 : n + m ≤ maxLen) (hbytes : (n + m) * bytes ≤ 140737488355328) (hbase : base ≤ w.heap.size) :
    ∃ v' w', (Builtin.append_ #[t, t] ty #[v, .slice (some a) m c]).run P w = .ok v' w' ∧ w'.ownsRow base e size v' (n + m) (xs ++ news) ∧ w.grownBy w' v.ownBlock ∧ Apart w v v' := by
  have key : ∀ {v1 v2 : Value} {w1 w2 : World}, (Builtin.append_ #[t, t] ty #[v, .slice (some a) m c]).run P w = .ok v1 w1 → (Builtin.append_ #[t, t] ty #[v, .slice (some a) m c]).run P w = .ok v2 w2 → v1 = v2 := by
    intro v1 v2 w1 w2 h1 h2
    rw [h1] at h2
    injection h2
  obtain ⟨v', w', hr, h2, h3, _⟩ := run_append_own (P := P) w base t ty e i z size bytes ht hi hz hsize hby hzs hsz v n xs hown a m c news hl hnews h1 h63 hbytes hbase
  refine ⟨v', w', hr, h2, h3, ?_⟩
  rcases hown.2 with ⟨rfl, rfl⟩ | ⟨g, cap, cur, rfl, hbg, hg, hnc, hcm, hcs, htake⟩
  · have hx : xs = [] := List.eq_nil_of_length_eq_zero (by simpa using hown.1)
    subst hx
    obtain ⟨v2, w2, hr2, h4, _, _⟩ := run_append_own (P := P) w w.heap.size t ty e i z size bytes ht hi hz hsize hby hzs hsz (.slice none 0 0) 0 [] (World.ownsRow_nil w _ e size) a m c news hl hnews h1 h63 hbytes (Nat.le_refl _)
    have := key hr hr2
    subst this
    rcases h4.2 with ⟨rfl, _⟩ | ⟨g, cap, cur, rfl, hg, _⟩
    · exact .inl rfl
    · exact .inr ⟨g, rfl, hg⟩
  · by_cases hroom : n + m ≤ cap
    · obtain ⟨w2, hr2, _, _⟩ := run_append_fits (P := P) w base t ty e i size ht hi hsize g n cap xs hown a m c news hl hnews h1 hroom
      have := key hr hr2
      subst this
      exact .inl rfl
    · have holds : ∀ j u, xs[j]? = some u → w.cell? ((⟨g, 0, none⟩ : Addr).add j) = some u := hown.cells (g := g) rfl
      have hsmall : n + m ≤ 9223372036854775807 := by simp only [maxLen] at h63; omega
      subst hsize
      subst hby
      have hr2 := run_append_grow (P := P) w t ty e i z ht hi hz ⟨g, 0, none⟩ n cap xs hown.1 holds a m c news hl hnews (by omega) (by omega) (growslice_fits (by omega) hbytes)
      have := key hr hr2
      subst this
      exact .inr ⟨_, rfl, Nat.le_refl _⟩
theorem wp_append_apart {P : Program} {w : World} {o : Oper} {a : Act} {K : Act → World → Prop} {Q : Exit → Act → World → Prop} (s x : Operand) (t : TypeId)
    (ho : o.op = .call { callee := .builtin .append, args := #[s, x], argTypes := #[t, t] })
    (base : Nat) (e : TypeId) (i : TypeInfo) (z : Value) (size bytes : Nat) (ht : P.underlying t = some (.slice e)) (hi : P.info? e = some i) (hz : i.zero = some z)
    (hsize : i.size = size) (hby : i.bytes = bytes) (hzs : z.cells.size = size) (hsz : 0 < size)
    (v : Value) (n : Nat) (xs : List Value) (hs : a.eval s = v) (hown : w.ownsRow base e size v n xs)
    (ad : Addr) (m c : Nat) (news : List Value) (hx : a.eval x = .slice (some ad) m c) (hl : news.length = m * size) (hnews : ∀ j u, news[j]? = some u → w.cell? (ad.add j) = some u) (h1 : ∀ u ∈ news, u.oneCell' = true)
    (h63 : n + m ≤ maxLen) (hbytes : (n + m) * bytes ≤ 140737488355328) (hbase : base ≤ w.heap.size)
    (h : ∀ v' w', w'.ownsRow base e size v' (n + m) (xs ++ news) → w.grownBy w' v.ownBlock → Apart w v v' → K (a.put o.dst v') w') : o.wp P a w K Q := by
  obtain ⟨v', w', hr, h2, h3, h4⟩ := run_append_apart (P := P) w base t o.type e i z size bytes ht hi hz hsize hby hzs hsz v n xs hown ad m c news hl hnews h1 h63 hbytes hbase
  unfold Oper.wp execOp
  simp only [ho, resolve, invoke, builtin, Sem.run_bind, Sem.run_pure, Result.andThen_ok, List.map_toArray, List.map_cons, List.map_nil, hs, hx, hr]
  exact h v' w' h2 h3 h4
end Go.Proofs.YtemdjmaakajhjaaGreatDoor.Num

/- A region that appends to two rows of the call's own and stores both into a struct, in any order. Plain: of no program. -/
namespace Go.Proofs.YtemdjmaakajhjaaGreatDoor.Num
open Go.RowKit Go.Lib

/-- an operation of which nothing is said here: it writes into one block of the call's own, which no entry names -/
theorem Fs.free {nd : Nat → Nat → Bool} {n : Nat} {ks : List RK} {w : World} {rr : Option Nat} {listed : Array Bool} {vs : List Value} {W W' : World} {i : Nat} (hF : Fs nd n ks w rr listed vs W) (hok : okB n ks = true) (hna : ∀ (i : Nat) (R : Value → World → Prop), ks[i]? ≠ some (.any R)) (hpre : ∀ j, nd i j = true → listed.getD j false = true) (hk : ks[i]? = some .free) {rb : Option Nat} (hg : W.grownBy W' rb) (hB : ∀ b, rb = some b → w.heap.size ≤ b)
    (hfar : ∀ j k, ks[j]? = some k → k.owns = true → On n listed j → blkOf (vs.getD j undef) ≠ rb) (v : Value) : Fs nd n ks w rr (listed.setIfInBounds i true) (vs.set i v) W' := by
  refine ⟨by simpa using hF.lsz, by rw [List.length_set]; exact hF.len, ⟨hg.os.trans hF.low.os, hg.tape.trans hF.low.tape, hg.output.trans hF.low.output, Nat.le_trans hF.low.size hg.size, fun k hk' hr => ?_⟩, ?_, ?_, ?_, back_set hF.back hpre⟩
  · refine (hg.block k (Nat.lt_of_lt_of_le hk' hF.low.size) (fun e => ?_)).trans (hF.low.block k hk' hr)
    have := hB k e.symm
    omega
  · intro j kj hj hlj
    by_cases e : i = j
    · subst e
      rw [hk] at hj
      cases hj
      trivial
    · have hlj' := hlj.of_set e
      rw [getD_vset_ne e]
      have h := hF.get j kj hj hlj'
      have stay : ∀ {G : Nat} {o : Obj}, kj.owns = true → blkOf (vs.getD j undef) = some G → W.heap[G]? = some o → W'.heap[G]? = some o := by
        intro G o ho hG hh
        refine (hg.block G (heap_lt hh) (fun e' => ?_)).trans hh
        have := hfar j kj hj ho hlj'
        rw [hG] at this
        exact this e'
      cases kj with
      | pure c => exact h
      | row cs T m => obtain ⟨G, hG, hB', hh⟩ := h; exact ⟨G, hG, hB', stay rfl (by rw [hG]; rfl) hh⟩
      | box g z f T st =>
        obtain ⟨G, hG, hgg, hB', hh⟩ := h
        have hne : listed.getD st false = (listed.setIfInBounds i true).getD st false := by
          rcases okB_box hok hj with hst | hst
          · have h1 : ¬ st < listed.size := by rw [hF.lsz]; omega
            simp [h1]
          · have hne : i ≠ st := by
              rintro rfl
              rw [hk] at hst
              cases hst
            rw [getD_set_ne false hne]
        refine ⟨G, hG, hgg, hB', ?_⟩
        rw [← hne]
        exact stay rfl (by rw [hG]; rfl) hh
      | put al => trivial
      | free => trivial
      | any R => exact absurd hj (hna j R)
      | blk g z f sts T =>
        obtain ⟨G, hG, hgg, hB', hh⟩ := h
        refine ⟨G, hG, hgg, hB', ?_⟩
        rw [mix_ne z f sts (fun x hx => by
          rintro rfl
          have hst := okB_blk hok hj hx
          rw [hk] at hst
          cases hst)]
        exact stay rfl (by rw [hG]; rfl) hh
  · intro a b ka kb hab ha hb' oa ob la lb
    have ea : i ≠ a := by rintro rfl; rw [hk] at ha; cases ha; cases oa
    have eb : i ≠ b := by rintro rfl; rw [hk] at hb'; cases hb'; cases ob
    rw [getD_vset_ne ea, getD_vset_ne eb]
    exact hF.ne a b ka kb hab ha hb' oa ob (la.of_set ea) (lb.of_set eb)
  · intro a al ha la
    by_cases ea : i = a
    · subst ea
      rw [hk] at ha
      cases ha
    · rw [getD_set_ne false ea] at la
      exact (hF.puts a al ha la).mono

/-- a row: what stands for it now, how long it is, what it holds -/
def curV (listed : Array Bool) (vs : List Value) (i : Nat) (v : Value) : Value := if listed.getD i false = true then vs.getD i undef else v
def curN (listed : Array Bool) (i n : Nat) : Nat := if listed.getD i false = true then n + 1 else n
def curL (listed : Array Bool) (i : Nat) (xs nx : List Value) : List Value := if listed.getD i false = true then xs ++ nx else xs
theorem curV_ne {listed : Array Bool} {vs : List Value} {i j : Nat} {u v : Value} (h : j ≠ i) : curV (listed.setIfInBounds j true) (vs.set j u) i v = curV listed vs i v := by
  unfold curV; rw [getD_set_ne false h, getD_vset_ne h]
theorem curN_ne {listed : Array Bool} {i j n : Nat} (h : j ≠ i) : curN (listed.setIfInBounds j true) i n = curN listed i n := by
  unfold curN; rw [getD_set_ne false h]
theorem curL_ne {listed : Array Bool} {i j : Nat} {xs nx : List Value} (h : j ≠ i) : curL (listed.setIfInBounds j true) i xs nx = curL listed i xs nx := by
  unfold curL; rw [getD_set_ne false h]
theorem curV_on {listed : Array Bool} {vs : List Value} {i : Nat} {v : Value} (h : listed.getD i false = true) : curV listed vs i v = vs.getD i undef := if_pos h
theorem curV_off {listed : Array Bool} {vs : List Value} {i : Nat} {v : Value} (h : ¬ listed.getD i false = true) : curV listed vs i v = v := if_neg h
theorem curN_on {listed : Array Bool} {i n : Nat} (h : listed.getD i false = true) : curN listed i n = n + 1 := if_pos h
theorem curN_off {listed : Array Bool} {i n : Nat} (h : ¬ listed.getD i false = true) : curN listed i n = n := if_neg h
theorem curL_on {listed : Array Bool} {i : Nat} {xs nx : List Value} (h : listed.getD i false = true) : curL listed i xs nx = xs ++ nx := if_pos h
theorem curL_off {listed : Array Bool} {i : Nat} {xs nx : List Value} (h : ¬ listed.getD i false = true) : curL listed i xs nx = xs := if_neg h
/-- two values lie in blocks that are not one another -/
def Off (u v : Value) : Prop := u.ownBlock = none ∨ v.ownBlock = none ∨ u.ownBlock ≠ v.ownBlock
theorem Off.symm {u v : Value} (h : Off u v) : Off v u := by
  rcases h with h | h | h
  · exact .inr (.inl h)
  · exact .inl h
  · exact .inr (.inr fun e => h e.symm)
theorem Off.apart {w : World} {u v v' : Value} (h : Off u v) (ha : Apart w v v') (hu : ∀ k, u.ownBlock = some k → k < w.heap.size) : Off u v' := by
  rcases ha with e | ⟨g, hg, hge⟩
  · unfold Off; rw [e]; exact h
  · cases hu' : u.ownBlock with
    | none => exact .inl hu'
    | some k =>
      refine .inr (.inr fun e => ?_)
      have := hu k hu'
      rw [hu', hg] at e
      have := Option.some.inj e
      omega

structure Pr (nd : Nat → Nat → Bool) (n : Nat) (ks : List RK) (w : World) (T TP : TypeId) (sz G : Nat) (rest : List Value) (ax ay sx sy m : Nat) (vx vy : Value) (xs ys nx ny : List Value) (listed : Array Bool) (vs : List Value) (W : World) : Prop where
  fs : Fs nd n ks w none listed vs W
  ox : W.ownsRow w.heap.size T sz (curV listed vs ax vx) (curN listed ax m) (curL listed ax xs nx)
  oy : W.ownsRow w.heap.size T sz (curV listed vs ay vy) (curN listed ay m) (curL listed ay ys ny)
  ap : Off (curV listed vs ax vx) (curV listed vs ay vy)
  blk : W.heap[G]? = some (.cells ((if listed.getD sx false = true then vs.getD ax undef else vx) :: (if listed.getD sy false = true then vs.getD ay undef else vy) :: rest).toArray TP (0, 0))
  gx : (curV listed vs ax vx).ownBlock ≠ some G
  gy : (curV listed vs ay vy).ownBlock ≠ some G
  farx : ∀ i k, ks[i]? = some k → k.owns = true → On n listed i → blkOf (vs.getD i undef) ≠ (curV listed vs ax vx).ownBlock
  fary : ∀ i k, ks[i]? = some k → k.owns = true → On n listed i → blkOf (vs.getD i undef) ≠ (curV listed vs ay vy).ownBlock
  farg : ∀ i k, ks[i]? = some k → k.owns = true → On n listed i → blkOf (vs.getD i undef) ≠ some G
section
variable {nd : Nat → Nat → Bool} {n : Nat} {ks : List RK} {w : World} {T TP : TypeId} {sz G : Nat} {rest : List Value} {ax ay sx sy m : Nat} {vx vy : Value} {xs ys nx ny : List Value} {listed : Array Bool} {vs : List Value} {W W' : World} {i : Nat}
theorem Pr.quiet (h : Pr nd n ks w T TP sz G rest ax ay sx sy m vx vy xs ys nx ny listed vs W) (hok : okB n ks = true) (hna : ∀ (i : Nat) (R : Value → World → Prop), ks[i]? ≠ some (.any R)) (hpre : ∀ j, nd i j = true → listed.getD j false = true) {k : RK} {v : Value} (hk : ks[i]? = some k) (hnp : ∀ al, k ≠ .put al) (e1 : i ≠ ax) (e2 : i ≠ ay) (e3 : i ≠ sx) (e4 : i ≠ sy) (hb : Below W.heap.size W W') (hv : k.holds w.heap.size (listed.setIfInBounds i true) v W')
    (hfresh : k.owns = true → ∃ G, blkOf v = some G ∧ W.heap.size ≤ G) : Pr nd n ks w T TP sz G rest ax ay sx sy m vx vy xs ys nx ny (listed.setIfInBounds i true) (vs.set i v) W' := by
  have hi : i < vs.length := by rw [h.fs.len]; exact (List.getElem?_eq_some_iff.1 hk).1
  have kept : ∀ {u : Value} {a : Nat} {l : List Value}, W.ownsRow w.heap.size T sz u a l → W'.ownsRow w.heap.size T sz u a l := fun {u _ _} o => o.kept (only_of_below hb none) (by cases u.ownBlock <;> simp)
  have far : ∀ {X : Option Nat}, (∀ b, X = some b → b < W.heap.size) → (∀ i k, ks[i]? = some k → k.owns = true → On n listed i → blkOf (vs.getD i undef) ≠ X) → ∀ j kj, ks[j]? = some kj → kj.owns = true → On n (listed.setIfInBounds i true) j → blkOf ((vs.set i v).getD j undef) ≠ X := by
    intro X hX hf j kj hj oj lj
    by_cases e : i = j
    · subst e
      rw [hk] at hj
      cases hj
      rw [getD_vset _ _ _ _ hi]
      obtain ⟨g, hg, hge⟩ := hfresh oj
      intro e'
      rw [hg] at e'
      have := hX g e'.symm
      omega
    · rw [getD_vset_ne e]
      exact hf j kj hj oj (lj.of_set e)
  refine ⟨h.fs.grow hok (lasts_of' hna) hpre hk hnp hb hv hfresh, ?_, ?_, ?_, ?_, ?_, ?_, ?_, ?_, ?_⟩
  · rw [curV_ne e1, curN_ne e1, curL_ne e1]; exact kept h.ox
  · rw [curV_ne e2, curN_ne e2, curL_ne e2]; exact kept h.oy
  · rw [curV_ne e1, curV_ne e2]; exact h.ap
  · rw [getD_set_ne false e3, getD_set_ne false e4, getD_vset_ne e1, getD_vset_ne e2]; exact keep_block h.blk hb
  · rw [curV_ne e1]; exact h.gx
  · rw [curV_ne e2]; exact h.gy
  · rw [curV_ne e1]; exact far (fun b hb' => (h.ox.lt b hb').2) h.farx
  · rw [curV_ne e2]; exact far (fun b hb' => (h.oy.lt b hb').2) h.fary
  · exact far (fun b hb' => by cases hb'; exact heap_lt h.blk) h.farg
theorem free_far {X : Option Nat} {v : Value} (hk : ks[i]? = some .free) (hf : ∀ i k, ks[i]? = some k → k.owns = true → On n listed i → blkOf (vs.getD i undef) ≠ X) : ∀ j kj, ks[j]? = some kj → kj.owns = true → On n (listed.setIfInBounds i true) j → blkOf ((vs.set i v).getD j undef) ≠ X := by
  intro j kj hj oj lj
  have e : i ≠ j := by rintro rfl; rw [hk] at hj; cases hj; cases oj
  rw [getD_vset_ne e]
  exact hf j kj hj oj (lj.of_set e)
theorem apart_far {v v' : Value} (ha : Apart W v v') (hO : ∀ i k, ks[i]? = some k → k.owns = true → On n listed i → ∃ g, blkOf (vs.getD i undef) = some g ∧ g < W.heap.size) (hf : ∀ i k, ks[i]? = some k → k.owns = true → On n listed i → blkOf (vs.getD i undef) ≠ v.ownBlock) : ∀ i k, ks[i]? = some k → k.owns = true → On n listed i → blkOf (vs.getD i undef) ≠ v'.ownBlock := by
  intro j kj hj oj lj
  rcases ha with e | ⟨g, hg, hge⟩
  · rw [e]; exact hf j kj hj oj lj
  · obtain ⟨g', hg', hlt⟩ := hO j kj hj oj lj
    rw [hg, hg']
    intro e
    have := Option.some.inj e
    omega
theorem Pr.blocks (h : Pr nd n ks w T TP sz G rest ax ay sx sy m vx vy xs ys nx ny listed vs W) : ∀ i k, ks[i]? = some k → k.owns = true → On n listed i → ∃ g, blkOf (vs.getD i undef) = some g ∧ g < W.heap.size := by
  intro j kj hj oj lj
  obtain ⟨g, hg, _, hlt⟩ := RK.blkAt (h.fs.get j kj hj lj) oj
  exact ⟨g, hg, hlt⟩
theorem apart_ne {v v' : Value} {G : Nat} (ha : Apart W v v') (hG : G < W.heap.size) (h : v.ownBlock ≠ some G) : v'.ownBlock ≠ some G := by
  rcases ha with e | ⟨g, hg, hge⟩
  · rw [e]; exact h
  · rw [hg]
    intro e
    have := Option.some.inj e
    omega
/-- the first row grows -/
theorem Pr.appx (h : Pr nd n ks w T TP sz G rest ax ay sx sy m vx vy xs ys nx ny listed vs W) (hok : okB n ks = true) (hna : ∀ (i : Nat) (R : Value → World → Prop), ks[i]? ≠ some (.any R)) (hpre : ∀ j, nd ax j = true → listed.getD j false = true) (hun : listed.getD ax true = false) (hk : ks[ax]? = some .free) (exy : ax ≠ ay) (esx : ax ≠ sx) (esy : ax ≠ sy) (hnd : nd sx ax = true)
    {v' : Value} (ho : W'.ownsRow w.heap.size T sz v' (m + 1) (xs ++ nx)) (hg : W.grownBy W' vx.ownBlock) (ha : Apart W vx v') : Pr nd n ks w T TP sz G rest ax ay sx sy m vx vy xs ys nx ny (listed.setIfInBounds ax true) (vs.set ax v') W' := by
  have hi : ax < vs.length := by rw [h.fs.len]; exact (List.getElem?_eq_some_iff.1 hk).1
  have hoff := bit_off hun
  have hs : ¬ listed.getD sx false = true := fun e => hoff (h.fs.back sx ax e hnd)
  have eV := curV_off (vs := vs) (v := vx) hoff
  have hx := h.ox; rw [eV] at hx
  have hfx := h.farx; rw [eV] at hfx
  have hap := h.ap; rw [eV] at hap
  have hgx := h.gx; rw [eV] at hgx
  have hlt := heap_lt h.blk
  have onx : (listed.setIfInBounds ax true).getD ax false = true := bit_self hun
  have eN : curV (listed.setIfInBounds ax true) (vs.set ax v') ax vx = v' := by rw [curV_on onx, getD_vset _ _ _ _ hi]
  refine ⟨h.fs.free hok hna hpre hk hg (fun b hb => (hx.lt b hb).1) hfx v', ?_, ?_, ?_, ?_, ?_, ?_, ?_, ?_, ?_⟩
  · rw [eN, curN_on onx, curL_on onx]; exact ho
  · rw [curV_ne exy, curN_ne exy, curL_ne exy]
    refine h.oy.kept hg ?_
    rcases hap with e | e | e
    · rw [e]
      cases hy : (curV listed vs ay vy).ownBlock with
      | none => exact .inl rfl
      | some b => exact .inr (by simp)
    · exact .inl e
    · exact .inr fun e' => e e'.symm
  · rw [eN, curV_ne exy]
    exact (hap.symm.apart ha (fun k hk' => (h.oy.lt k hk').2)).symm
  · rw [getD_set_ne false esx, getD_set_ne false esy, if_neg hs, getD_vset_ne exy]
    have := h.blk
    rw [if_neg hs] at this
    exact (hg.block G hlt (fun e => hgx e.symm)).trans this
  · rw [eN]; exact apart_ne ha hlt hgx
  · rw [curV_ne exy]; exact h.gy
  · rw [eN]; exact free_far hk (apart_far ha h.blocks hfx)
  · rw [curV_ne exy]; exact free_far hk h.fary
  · exact free_far hk h.farg
/-- the second row grows -/
theorem Pr.appy (h : Pr nd n ks w T TP sz G rest ax ay sx sy m vx vy xs ys nx ny listed vs W) (hok : okB n ks = true) (hna : ∀ (i : Nat) (R : Value → World → Prop), ks[i]? ≠ some (.any R)) (hpre : ∀ j, nd ay j = true → listed.getD j false = true) (hun : listed.getD ay true = false) (hk : ks[ay]? = some .free) (exy : ay ≠ ax) (esx : ay ≠ sx) (esy : ay ≠ sy) (hnd : nd sy ay = true)
    {v' : Value} (ho : W'.ownsRow w.heap.size T sz v' (m + 1) (ys ++ ny)) (hg : W.grownBy W' vy.ownBlock) (ha : Apart W vy v') : Pr nd n ks w T TP sz G rest ax ay sx sy m vx vy xs ys nx ny (listed.setIfInBounds ay true) (vs.set ay v') W' := by
  have hi : ay < vs.length := by rw [h.fs.len]; exact (List.getElem?_eq_some_iff.1 hk).1
  have hoff := bit_off hun
  have hs : ¬ listed.getD sy false = true := fun e => hoff (h.fs.back sy ay e hnd)
  have eV := curV_off (vs := vs) (v := vy) hoff
  have hy := h.oy; rw [eV] at hy
  have hfy := h.fary; rw [eV] at hfy
  have hap := h.ap; rw [eV] at hap
  have hgy := h.gy; rw [eV] at hgy
  have hlt := heap_lt h.blk
  have ony : (listed.setIfInBounds ay true).getD ay false = true := bit_self hun
  have eN : curV (listed.setIfInBounds ay true) (vs.set ay v') ay vy = v' := by rw [curV_on ony, getD_vset _ _ _ _ hi]
  refine ⟨h.fs.free hok hna hpre hk hg (fun b hb => (hy.lt b hb).1) hfy v', ?_, ?_, ?_, ?_, ?_, ?_, ?_, ?_, ?_⟩
  · rw [curV_ne exy, curN_ne exy, curL_ne exy]
    refine h.ox.kept hg ?_
    rcases hap with e | e | e
    · exact .inl e
    · rw [e]
      cases hy : (curV listed vs ax vx).ownBlock with
      | none => exact .inl rfl
      | some b => exact .inr (by simp)
    · exact .inr e
  · rw [eN, curN_on ony, curL_on ony]; exact ho
  · rw [eN, curV_ne exy]
    exact hap.apart ha (fun k hk' => (h.ox.lt k hk').2)
  · rw [getD_set_ne false esx, getD_set_ne false esy, if_neg hs, getD_vset_ne exy]
    have := h.blk
    rw [if_neg hs] at this
    exact (hg.block G hlt (fun e => hgy e.symm)).trans this
  · rw [curV_ne exy]; exact h.gx
  · rw [eN]; exact apart_ne ha hlt hgy
  · rw [curV_ne exy]; exact free_far hk h.farx
  · rw [eN]; exact free_far hk (apart_far ha h.blocks hfy)
  · exact free_far hk h.farg
theorem set_grown (W : World) (G i : Nat) (v : Value) : W.grownBy (W.setCell ⟨G, i, none⟩ v) (some G) :=
  ⟨rfl, rfl, rfl, by simp, fun k _ hk => Below.heap_setCell W ⟨G, i, none⟩ v k (fun e => hk (by rw [e]))⟩
theorem own_other {G : Nat} {u : Value} (h : u.ownBlock ≠ some G) : u.ownBlock = none ∨ u.ownBlock ≠ some G := .inr h
/-- the first row is stored -/
theorem Pr.stox (h : Pr nd n ks w T TP sz G rest ax ay sx sy m vx vy xs ys nx ny listed vs W) (hok : okB n ks = true) (hna : ∀ (i : Nat) (R : Value → World → Prop), ks[i]? ≠ some (.any R)) (hpre : ∀ j, nd sx j = true → listed.getD j false = true) (hun : listed.getD sx true = false) (hk : ks[sx]? = some .free) (e1 : sx ≠ ax) (e2 : sx ≠ ay) (e3 : sx ≠ sy) (hG : w.heap.size ≤ G) (u : Value) {u8 : Value} (hu : vs.getD ax undef = u8) : Pr nd n ks w T TP sz G rest ax ay sx sy m vx vy xs ys nx ny (listed.setIfInBounds sx true) (vs.set sx u) (W.setCell ⟨G, 0, none⟩ u8) := by
  subst hu
  have hg := set_grown W G 0 (vs.getD ax undef)
  refine ⟨h.fs.free hok hna hpre hk hg (fun b hb => by cases hb; exact hG) h.farg u, ?_, ?_, ?_, ?_, ?_, ?_, ?_, ?_, ?_⟩
  · rw [curV_ne e1, curN_ne e1, curL_ne e1]; exact h.ox.kept hg (own_other h.gx)
  · rw [curV_ne e2, curN_ne e2, curL_ne e2]; exact h.oy.kept hg (own_other h.gy)
  · rw [curV_ne e1, curV_ne e2]; exact h.ap
  · rw [if_pos (bit_self hun), getD_set_ne false e3, getD_vset_ne e1, getD_vset_ne e2]
    rw [heap_setCell_at h.blk 0 (vs.getD ax undef)]
    simp
  · rw [curV_ne e1]; exact h.gx
  · rw [curV_ne e2]; exact h.gy
  · rw [curV_ne e1]; exact free_far hk h.farx
  · rw [curV_ne e2]; exact free_far hk h.fary
  · exact free_far hk h.farg
/-- the second row is stored -/
theorem Pr.stoy (h : Pr nd n ks w T TP sz G rest ax ay sx sy m vx vy xs ys nx ny listed vs W) (hok : okB n ks = true) (hna : ∀ (i : Nat) (R : Value → World → Prop), ks[i]? ≠ some (.any R)) (hpre : ∀ j, nd sy j = true → listed.getD j false = true) (hun : listed.getD sy true = false) (hk : ks[sy]? = some .free) (e1 : sy ≠ ax) (e2 : sy ≠ ay) (e3 : sy ≠ sx) (hG : w.heap.size ≤ G) (u : Value) {u8 : Value} (hu : vs.getD ay undef = u8) : Pr nd n ks w T TP sz G rest ax ay sx sy m vx vy xs ys nx ny (listed.setIfInBounds sy true) (vs.set sy u) (W.setCell ⟨G, 1, none⟩ u8) := by
  subst hu
  have hg := set_grown W G 1 (vs.getD ay undef)
  refine ⟨h.fs.free hok hna hpre hk hg (fun b hb => by cases hb; exact hG) h.farg u, ?_, ?_, ?_, ?_, ?_, ?_, ?_, ?_, ?_⟩
  · rw [curV_ne e1, curN_ne e1, curL_ne e1]; exact h.ox.kept hg (own_other h.gx)
  · rw [curV_ne e2, curN_ne e2, curL_ne e2]; exact h.oy.kept hg (own_other h.gy)
  · rw [curV_ne e1, curV_ne e2]; exact h.ap
  · rw [if_pos (bit_self hun), getD_set_ne false e3, getD_vset_ne e1, getD_vset_ne e2]
    rw [heap_setCell_at h.blk 1 (vs.getD ay undef)]
    simp
  · rw [curV_ne e1]; exact h.gx
  · rw [curV_ne e2]; exact h.gy
  · rw [curV_ne e1]; exact free_far hk h.farx
  · rw [curV_ne e2]; exact free_far hk h.fary
  · exact free_far hk h.farg
end
/-- append to a row of the call's own, as one step of a region that draws; where the row lies then -/
theorem step_append_apart {P : Program} {ops : Array Oper} {o : Oper} {a : Act} {w : World} {K : Act → World → Prop} {Q : Exit → Act → World → Prop} {E : Prop} (hgd : o.guard = none) (s x : Operand) (t : TypeId)
    (ho : o.op = .call { callee := .builtin .append, args := #[s, x], argTypes := #[t, t] })
    (base : Nat) (e : TypeId) (i : TypeInfo) (z : Value) (size bytes : Nat) (ht : P.underlying t = some (.slice e)) (hi : P.info? e = some i) (hz : i.zero = some z)
    (hsize : i.size = size) (hby : i.bytes = bytes) (hzs : z.cells.size = size) (hsz : 0 < size)
    (v : Value) (n : Nat) (xs : List Value) (hs : a.eval s = v) (hown : w.ownsRow base e size v n xs)
    (ad : Addr) (m c : Nat) (news : List Value) (hx : a.eval x = .slice (some ad) m c) (hl : news.length = m * size) (hnews : ∀ j u, news[j]? = some u → w.cell? (ad.add j) = some u) (h1 : ∀ u ∈ news, u.oneCell' = true)
    (h63 : n + m ≤ maxLen) (hbytes : (n + m) * bytes ≤ 140737488355328) (hbase : base ≤ w.heap.size)
    (hK : ∀ v' w', w'.ownsRow base e size v' (n + m) (xs ++ news) → w.grownBy w' v.ownBlock → Apart w v v' → K (a.put o.dst v') w') :
    if Region.wanted o (yielded ops a.tmps) = true then Oper.wp P o a w K Q else E := by
  have hw : Region.wanted o (yielded ops a.tmps) = true := by simp [Region.wanted, hgd]
  rw [if_pos hw]
  exact wp_append_apart s x t ho base e i z size bytes ht hi hz hsize hby hzs hsz v n xs hs hown ad m c news hx hl hnews h1 h63 hbytes hbase hK
section
variable {nd : Nat → Nat → Bool} {n : Nat} {ks : List RK} {w : World} {T TP TR : TypeId} {sz G R : Nat} {rest : List Value} {ax ay sx sy m : Nat} {vx vy : Value} {xs ys nx ny : List Value} {listed : Array Bool} {vs : List Value} {W : World} {cs : Array Value}
/-- nothing has come up yet; one block from before stands behind the operations -/
theorem Pr.start (hks : ks.length = n + 1) (hkn : ks[n]? = some (.box (some R) cs cs TR (n + 1))) (hna : ∀ (i : Nat) (R : Value → World → Prop), ks[i]? ≠ some (.any R)) (hvs : vs.length = n + 1) (hvn : vs.getD n undef = .pointer (some ⟨R, 0, none⟩)) (low : Below w.heap.size w W) (hR : w.heap.size ≤ R) (hr : W.heap[R]? = some (.cells cs TR (0, 0)))
    (ox : W.ownsRow w.heap.size T sz vx m xs) (oy : W.ownsRow w.heap.size T sz vy m ys) (ap : Off vx vy) (blk : W.heap[G]? = some (.cells (vx :: vy :: rest).toArray TP (0, 0))) (rx : vx.ownBlock ≠ some R) (ry : vy.ownBlock ≠ some R) (gx : vx.ownBlock ≠ some G) (gy : vy.ownBlock ≠ some G) (hGR : G ≠ R) :
    Pr nd n ks w T TP sz G rest ax ay sx sy m vx vy xs ys nx ny (Array.replicate n false) vs W.drew := by
  have hd : Below W.heap.size W W.drew := (Below.refl _ _).drew
  have hks' : ks.drop n = [.box (some R) cs cs TR (n + 1)] := by
    have hlt : n < ks.length := by omega
    rw [List.drop_eq_getElem_cons hlt, List.drop_of_length_le (by omega)]
    rw [List.getElem?_eq_getElem hlt] at hkn
    rw [Option.some.inj hkn]
  have hvs' : vs.drop n = [.pointer (some ⟨R, 0, none⟩)] := by
    have hlt : n < vs.length := by omega
    rw [List.drop_eq_getElem_cons hlt, List.drop_of_length_le (by omega)]
    rw [List.getD_eq_getElem?_getD, List.getElem?_eq_getElem hlt, Option.getD_some] at hvn
    rw [hvn]
  have kept : ∀ {u : Value} {a : Nat} {l : List Value}, W.ownsRow w.heap.size T sz u a l → W.drew.ownsRow w.heap.size T sz u a l := fun {u _ _} o => o.kept (only_of_below hd none) (by cases u.ownBlock <;> simp)
  have far : ∀ {X : Option Nat}, X ≠ some R → ∀ i k, ks[i]? = some k → k.owns = true → On n (Array.replicate n false) i → blkOf (vs.getD i undef) ≠ X := by
    intro X hX i k hk _ hon
    have hi := hon.resolve_right bit_none
    have hi2 := (List.getElem?_eq_some_iff.1 hk).1
    have e : i = n := by omega
    subst e
    rw [hvn]
    exact fun e => hX e.symm
  refine ⟨Fs.start_olds (lasts_of' hna) (by omega) (only_of_below low none) ?_, ?_, ?_, ?_, ?_, ?_, ?_, ?_, ?_, ?_⟩
  · rw [hks', hvs']
    exact ⟨⟨R, rfl, fun k h => Option.some.inj h, hR, by simpa using hr⟩, fun _ => trivial, trivial⟩
  · rw [curV_off bit_none, curN_off bit_none, curL_off bit_none]; exact kept ox
  · rw [curV_off bit_none, curN_off bit_none, curL_off bit_none]; exact kept oy
  · rw [curV_off bit_none, curV_off bit_none]; exact ap
  · rw [if_neg bit_none, if_neg bit_none]; exact keep_block blk hd
  · rw [curV_off bit_none]; exact gx
  · rw [curV_off bit_none]; exact gy
  · rw [curV_off bit_none]; exact far rx
  · rw [curV_off bit_none]; exact far ry
  · exact far (fun e => hGR (Option.some.inj e))
/-- what stands when all have come up -/
theorem Pr.done (h : Pr nd n ks w T TP sz G rest ax ay sx sy m vx vy xs ys nx ny listed vs W) (hall : ∀ j, j < n → listed.getD j false = true) (hkn : ks[n]? = some (.box (some R) cs cs TR (n + 1))) (hax : ax < n) (hay : ay < n) (hsx : sx < n) (hsy : sy < n) :
    W.ownsRow w.heap.size T sz (vs.getD ax undef) (m + 1) (xs ++ nx) ∧ W.ownsRow w.heap.size T sz (vs.getD ay undef) (m + 1) (ys ++ ny) ∧ Off (vs.getD ax undef) (vs.getD ay undef) ∧ W.heap[G]? = some (.cells (vs.getD ax undef :: vs.getD ay undef :: rest).toArray TP (0, 0)) ∧ ((vs.getD ax undef).ownBlock ≠ some G ∧ (vs.getD ay undef).ownBlock ≠ some G) ∧ ((vs.getD ax undef).ownBlock ≠ some R ∧ (vs.getD ay undef).ownBlock ≠ some R) ∧ W.heap[R]? = some (.cells cs TR (0, 0)) ∧ Below w.heap.size w W := by
  have vx' := curV_on (vs := vs) (v := vx) (hall ax hax)
  have vy' := curV_on (vs := vs) (v := vy) (hall ay hay)
  obtain ⟨R', e, hg, _, hh⟩ := h.fs.get n _ hkn (.inl (Nat.le_refl _))
  have := hg R rfl
  subst this
  have hx := h.ox; rw [vx', curN_on (hall ax hax), curL_on (hall ax hax)] at hx
  have hy := h.oy; rw [vy', curN_on (hall ay hay), curL_on (hall ay hay)] at hy
  have ap := h.ap; rw [vx', vy'] at ap
  have hb := h.blk; rw [if_pos (hall sx hsx), if_pos (hall sy hsy)] at hb
  have gx := h.gx; rw [vx'] at gx
  have gy := h.gy; rw [vy'] at gy
  have fx := h.farx n _ hkn rfl (.inl (Nat.le_refl _)); rw [vx', e] at fx
  have fy := h.fary n _ hkn rfl (.inl (Nat.le_refl _)); rw [vy', e] at fy
  exact ⟨hx, hy, ap, hb, ⟨gx, gy⟩, ⟨fun e => fx e.symm, fun e => fy e.symm⟩, by simpa using hh, below_none h.fs.low⟩
end
theorem wp_region_pair {P : Program} {ops : Array Oper} {Q : Exit → Act → World → Prop} {id : Nat} {a0 : Act} {w W0 : World} {T TP : TypeId} {sz G : Nat} {rest : List Value} {ax ay sx sy m : Nat} {vx vy : Value} {xs ys nx ny : List Value} (n : Nat) (ks : List RK) (slots : List (Option Nat)) (hm : P.follows .mixedOrders = true) (hb : backB ops = true) (hn : ops.size = n)
    (vs0 : List Value) (h00 : putO a0 slots vs0 = a0) (hF0 : Pr (ndOf ops) n ks w T TP sz G rest ax ay sx sy m vx vy xs ys nx ny (Array.replicate n false) vs0 W0.drew)
    (hstep : ∀ listed vs W, Pr (ndOf ops) n ks w T TP sz G rest ax ay sx sy m vx vy xs ys nx ny listed vs W → ∀ i, i < n → listed.getD i true = false → (∀ j, ndOf ops i j = true → listed.getD j false = true) → wpOp P ops Q i (fun a' W' => ∃ v, Pr (ndOf ops) n ks w T TP sz G rest ax ay sx sy m vx vy xs ys nx ny (listed.setIfInBounds i true) (vs.set i v) W' ∧ a' = putO a0 slots (vs.set i v)) (putO a0 slots vs) W)
    (hdone : ∀ listed vs W, Pr (ndOf ops) n ks w T TP sz G rest ax ay sx sy m vx vy xs ys nx ny listed vs W → (∀ j, j < n → listed.getD j false = true) → Q .normal (putO a0 slots vs) W) : (Code.region id ops true).wp P Q a0 W0 := by
  refine wp_region_inv hm (fun listed a W => ∃ vs, Pr (ndOf ops) n ks w T TP sz G rest ax ay sx sy m vx vy xs ys nx ny listed vs W ∧ a = putO a0 slots vs) ⟨vs0, by rw [hn]; exact hF0, h00.symm⟩ ?_ ?_
  · rintro listed a W ⟨vs, hF, rfl⟩ i o ho hun hpre
    refine wpOp_mono (fun a' w' h => ?_) (hstep listed vs W hF i (by rw [← hn]; exact (Array.getElem?_eq_some_iff.1 ho).1) hun ?_)
    · obtain ⟨v, hF', rfl⟩ := h
      exact ⟨_, hF', rfl⟩
    · intro j hj
      unfold ndOf needs at hj
      rw [ho] at hj
      simp only [List.contains_iff_mem, List.mem_map, List.mem_filter, Array.mem_toList_iff] at hj
      obtain ⟨e, ⟨he, hbd⟩, rfl⟩ := hj
      exact hpre e he hbd
  · rintro listed a W ⟨vs, hF, rfl⟩ hr
    exact hdone listed vs W hF (by rw [← hn]; exact all_listed (by rw [hF.fs.lsz, hn]) hb hr)
end Go.Proofs.YtemdjmaakajhjaaGreatDoor.Num
