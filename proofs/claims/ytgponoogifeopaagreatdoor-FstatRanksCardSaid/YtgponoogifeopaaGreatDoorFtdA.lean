/- Numbers as texts of digits, fractions, values and the functions of fmath: contracts of the program's functions, joined from smaller texts. Conditions stand at each theorem. -/
import Derived.Calls

/- The machine's draws only grow: no step of the machine lowers the count of draws; so a call's world has drawn no less than the world that it came from. No condition but that the call comes back (or panics). -/
namespace Go.Proofs.YtgponoogifeopaaGreatDoor.Num.Dr
open Go
/-- what a result's world has drawn is at least n -/
def Rd {α : Type} (n : Nat) : Result α → Prop
  | .ok _ w => n ≤ w.drawn
  | .halt _ w => n ≤ w.drawn
theorem ask_dr {α : Type} : ∀ (a : Ask α) (w : World), w.drawn ≤ (w.ask a).2.drawn := by
  intro a
  induction a with
  | done a => intro w; exact Nat.le_refl _
  | ask what range k ih =>
    intro w
    simp only [World.ask]
    split
    · exact ih _ w
    · exact Nat.le_trans (Nat.le_succ w.drawn) (ih _ { w with drawn := w.drawn + 1 })
theorem sys_dr (w : World) (c : Sys) : w.drawn ≤ (w.sys c).2.drawn := by
  have h := ask_dr (Kernel.perform c w.os) w
  unfold World.sys
  split
  · exact Nat.le_refl _
  · rename_i e; rw [e] at h; exact h
theorem viewStore_dr {p : Program} {w w' : World} {at_ : Addr} {u : TypeId} {k : Addr} {v : Value} {b : Bool} {l : List Addr} (h : w.viewStore p at_ u k v b = .ok (w', l)) : w'.drawn = w.drawn := by
  unfold World.viewStore at h
  simp only [bind, Except.bind, pure, Except.pure] at h
  repeat' (first | (cases h; done) | (obtain ⟨rfl, _⟩ := h; rfl) | split at h)
  all_goals first | (simp at h; done) | (simp at h; obtain ⟨rfl, _⟩ := h; rfl)
theorem farStore_dr {p : Program} {w w' : World} {a : Addr} {v : Value} {b : Bool} {l : List Addr} (h : w.farStore p a v b = .ok (w', l)) : w'.drawn = w.drawn := by
  unfold World.farStore at h
  split at h
  · split at h
    · rename_i e; cases h; exact viewStore_dr e
    · cases h
  · cases h
theorem freeze_dr (w : World) (a : Addr) (n : Nat) : (w.freeze a n).drawn = w.drawn := by
  unfold World.freeze; split <;> rfl
theorem run_dr {α : Type} (p : Program) (n : Nat) : ∀ (s : Sem α) (w : World), n ≤ w.drawn → Rd n (s.run p w) := by
  intro s
  induction s with
  | pure a => intro w h; exact h
  | load m a k ih =>
    intro w h; simp only [Sem.run]
    split
    · exact ih _ _ h
    · split
      · exact ih _ _ h
      · exact h
  | store m a v k ih =>
    intro w h
    have go : Rd n (match w.cell? a with
      | some _ => if w.frozen? a then .halt (.unsupported (.unsafePointer "a write to bytes that a string shares")) w else k.run p (w.setCell a v)
      | none => match w.farStore p a v (m == .atomic) with
        | .ok (w, _) => k.run p w
        | .error h => .halt h w) := by
      split
      · split
        · exact h
        · exact ih _ h
      · split
        · rename_i e; exact ih _ (by rw [farStore_dr e]; exact h)
        · exact h
    cases v <;> simp only [Sem.run] <;> first | exact h | exact go
  | new o k ih => intro w h; exact ih _ _ h
  | shape r k ih => intro w h; exact ih _ _ h
  | freeze a m k ih => intro w h; exact ih _ (by rw [freeze_dr]; exact h)
  | frozen a k ih => intro w h; exact ih _ _ h
  | getObj r k ih =>
    intro w h; simp only [Sem.run]
    split
    · exact h
    · exact ih _ _ h
    · exact h
  | setObj r o k ih =>
    intro w h; simp only [Sem.run]
    split
    · exact h
    · exact ih _ h
    · exact h
  | choose q k ih =>
    intro w h; simp only [Sem.run]
    split
    · exact ih _ _ h
    · exact ih _ _ (Nat.le_succ_of_le h)
  | sys c k ih => intro w h; exact ih _ _ (Nat.le_trans h (sys_dr w c))
  | program k ih => intro w h; exact ih _ _ h
  | mark m k ih => intro w h; exact ih _ h
  | halt x => intro w h; exact h
theorem runT_dr {α : Type} (p : Program) (n : Nat) : ∀ (s : Sem α) (w : World) (es : Array Event), n ≤ w.drawn → Rd n (s.runT p w es).1 := by
  intro s
  induction s with
  | pure a => intro w es h; exact h
  | load m a k ih =>
    intro w es h; simp only [Sem.runT]
    split
    · exact ih _ _ _ h
    · split
      · exact ih _ _ _ h
      · exact h
  | store m a v k ih =>
    intro w es h
    have go : Rd n ((match w.cell? a with
      | some _ =>
        if w.frozen? a then (.halt (.unsupported (.unsafePointer "a write to bytes that a string shares")) w, es)
        else k.runT p (w.setCell a v) (es.push ⟨.cell a, true, m == .atomic⟩)
      | none => match w.farStore p a v (m == .atomic) with
        | .ok (w, touched) => k.runT p w (es ++ touched.toArray.map (⟨.cell ·, true, m == .atomic⟩))
        | .error h => (.halt h w, es)) : Result α × Array Event).1 := by
      split
      · split
        · exact h
        · exact ih _ _ h
      · split
        · rename_i e; exact ih _ _ (by rw [farStore_dr e]; exact h)
        · exact h
    cases v <;> simp only [Sem.runT] <;> first | exact h | exact go
  | new o k ih => intro w es h; exact ih _ _ _ h
  | shape r k ih => intro w es h; exact ih _ _ _ h
  | freeze a m k ih => intro w es h; exact ih _ _ (by rw [freeze_dr]; exact h)
  | frozen a k ih => intro w es h; exact ih _ _ _ h
  | getObj r k ih =>
    intro w es h; simp only [Sem.runT]
    split
    · exact h
    · exact ih _ _ _ h
    · exact h
  | setObj r o k ih =>
    intro w es h; simp only [Sem.runT]
    split
    · exact h
    · exact ih _ _ h
    · exact h
  | choose q k ih =>
    intro w es h; simp only [Sem.runT]
    split
    · exact ih _ _ _ h
    · exact ih _ _ _ (Nat.le_succ_of_le h)
  | sys c k ih => intro w es h; exact ih _ _ _ (Nat.le_trans h (sys_dr w c))
  | program k ih => intro w es h; exact ih _ _ _ h
  | mark m k ih => intro w es h; exact ih _ _ h
  | halt x => intro w es h; exact h
def Gd (n : Nat) : GStep → Prop
  | .go _ w _ => n ≤ w.drawn
  | .comm _ _ _ _ w _ => n ≤ w.drawn
  | .spawn _ _ w _ => n ≤ w.drawn
  | .count _ w _ => n ≤ w.drawn
  | .timer _ _ w _ => n ≤ w.drawn
  | .alone _ _ w _ => n ≤ w.drawn
  | .newcoro _ _ _ w _ => n ≤ w.drawn
  | .coroswitch _ _ _ w _ => n ≤ w.drawn
  | .collect _ w _ => n ≤ w.drawn
  | .watch _ w _ => n ≤ w.drawn
  | .ended _ _ _ => True
theorem after_gd {n : Nat} {es : Array Event} {g : GStep} (h : Gd n g) : Gd n (GStep.after es g) := by cases g <;> exact h
theorem endWith_gd (n : Nat) (w : World) (fd : Nat) (text : ByteArray) (o : Outcome) : Gd n (endWith w fd text o) := by
  unfold endWith
  repeat' split
  all_goals trivial
theorem endThrow_gd {n : Nat} {w : World} (fr : Frame) (m : String) (h : n ≤ w.drawn) : Gd n (endThrow fr m w) := h
theorem endPrinting_gd {n : Nat} {w : World} (p : Program) (fr : Frame) (v : Value) (h : n ≤ w.drawn) : Gd n (endPrinting p fr v w) := by
  unfold endPrinting
  extract_lets type what
  generalize what = x
  cases x
  · trivial
  · exact h
theorem endFatal_gd {n : Nat} {w : World} (p : Program) (fr : Frame) (cs : List Frame) (d : Option Dying) (m : String) (h : n ≤ w.drawn) : Gd n (endFatal p fr cs d m w) := by
  unfold endFatal
  extract_lets chain raw shown
  have hr := run_dr p n shown w h
  generalize shown.run p w = r at hr ⊢
  split
  · exact hr
  · trivial
  · trivial
theorem writeOn_gd {n : Nat} {w : World} (p : Program) (fr : Frame) (d : Dying) (f : Fatal) (h : n ≤ w.drawn) : Gd n (writeOn p fr d f w) := by
  unfold writeOn
  extract_lets on
  split
  · trivial
  · extract_lets j1 j2 j3 j4 write
    have hr := runT_dr p n write w #[] h
    generalize write.runT p w #[] = r at hr ⊢
    split
    · exact hr
    · exact hr
    · trivial
    · trivial
theorem die_gd {n : Nat} {w : World} (p : Program) (fr : Frame) (d : Dying) (h : n ≤ w.drawn) : Gd n (die p fr d w) := by
  unfold die
  split
  · exact writeOn_gd p fr d _ h
  · split
    · split
      · exact h
      · exact endWith_gd _ _ _ _ _
    · extract_lets d
      split
      · exact h
      · rename_i s _
        have hr := run_dr p n (withAddress s) w h
        generalize (withAddress s).run p w = r at hr ⊢
        split
        · exact hr
        · trivial
      · rename_i t recv name _
        have hr := runT_dr p n (invoke (.fn (.method name) #[]) #[.iface t recv]) w #[] h
        generalize (invoke (.fn (.method name) #[]) #[.iface t recv]).runT p w #[] = r at hr ⊢
        obtain ⟨r, es⟩ := r
        refine after_gd ?_
        split
        · exact hr
        · exact hr
        · trivial
        · exact endPrinting_gd p fr _ hr
        · trivial
      · trivial
theorem doReturn_gd {n : Nat} {w : World} (p : Program) (main : Bool) (fr : Frame) (cs : List Frame) (d : Option Dying) (v : Value) (h : n ≤ w.drawn) : Gd n (doReturn p main fr cs d v w) := by
  unfold doReturn
  repeat' split
  all_goals first | exact h | trivial
theorem early_gd {n : Nat} {w : World} (p : Program) (fr : Frame) (cs : List Frame) (d : Option Dying) (g : Nat) (h : n ≤ w.drawn) : Gd n (early p fr cs d g w) := by
  have hn : ∀ w : World, n ≤ w.drawn → Gd n (match w.heap[g]? with
    | some (.pending c elem) =>
      .go { frame := fr, callers := cs, status := .running, dying := d } { w with heap := w.heap.setIfInBounds g (.cells c elem) }
    | _ => .ended (.stuck "early: the variable does not wait" (fr.pos p)) w) := by
    intro w h
    split
    · exact h
    · trivial
  unfold early
  extract_lets refuse notYet
  split
  · exact hn w h
  · split
    · trivial
    · rename_i f _
      extract_lets there
      split
      · exact hn w h
      · split
        · exact hn w h
        · split
          · trivial
          · exact h
          · trivial
          · exact hn w h
          · split
            · exact h
            · split
              · exact hn w h
              · have hr := run_dr p n (choose (.early g)) w h
                generalize (choose (.early g)).run p w = r at hr ⊢
                split
                · exact hn _ hr
                · exact hr
                · trivial
theorem ite_gd {n : Nat} {c : Prop} [Decidable c] {a b : GStep} (ha : Gd n a) (hb : Gd n b) : Gd n (if c then a else b) := by
  split <;> assumption
theorem callDeferred_gd {n : Nat} {w : World} (p : Program) (fr : Frame) (cs : List Frame) (dy : Option Dying) (d : Deferred) (h : n ≤ w.drawn) : Gd n (callDeferred p fr cs dy d w) := by
  unfold callDeferred
  refine ite_gd ?_ ?_
  · trivial
  · have hr := runT_dr p n (invoke d.target d.args) w #[] h
    generalize (invoke d.target d.args).runT p w #[] = r at hr ⊢
    obtain ⟨r, es⟩ := r
    refine after_gd ?_
    repeat' split
    all_goals first | exact hr | trivial | exact endFatal_gd p fr cs dy _ hr
theorem unwind_gd {n : Nat} {w : World} (p : Program) (main : Bool) (fr : Frame) (cs : List Frame) (dy : Option Dying) (h : n ≤ w.drawn) : Gd n (unwind p main fr cs dy w) := by
  unfold unwind
  split
  · rename_i block ds _ _
    have hr := runT_dr p n (Instr.takeDeferred block) w #[] h
    generalize (Instr.takeDeferred block).runT p w #[] = r at hr ⊢
    obtain ⟨r, es⟩ := r
    refine after_gd ?_
    split
    · exact hr
    · trivial
  · exact callDeferred_gd p _ cs dy _ h
  · split
    · trivial
    · rename_i chain _
      split
      · trivial
      · split
        · exact h
        · split
          · split
            · exact h
            · have hr := run_dr p n (reportChain chain false) w h
              generalize (reportChain chain false).run p w = r at hr ⊢
              split
              · exact hr
              · trivial
              · trivial
          · split
            · exact endPrinting_gd p fr _ h
            · trivial
    · split
      · exact doReturn_gd p main fr cs dy _ h
      · rename_i fn _
        have hr := runT_dr p n (results fn fr.tmps) w #[] h
        generalize (results fn fr.tmps).runT p w #[] = r at hr ⊢
        obtain ⟨r, es⟩ := r
        refine after_gd ?_
        split
        · exact doReturn_gd p main fr cs dy _ hr
        · trivial
        · trivial
theorem apply_gd {n : Nat} {w : World} (p : Program) (listen : Bool) (fr : Frame) (cs : List Frame) (dy : Option Dying) (s : Sem Next) (h : n ≤ w.drawn) : Gd n (stepG.apply p listen fr cs dy s w) := by
  unfold stepG.apply
  extract_lets go kind
  have hr : Rd n (if listen then s.runT p w #[] else (s.run p w, #[])).1 := by
    split
    · exact runT_dr p n s w #[] h
    · exact run_dr p n s w h
  generalize (if listen then s.runT p w #[] else (s.run p w, #[])) = r at hr ⊢
  obtain ⟨r, es⟩ := r
  refine after_gd ?_
  split
  all_goals first | exact hr | trivial | exact endFatal_gd p fr cs dy _ hr | exact early_gd p fr cs dy _ hr | exact ite_gd (endThrow_gd _ _ hr) hr | skip
  all_goals (split <;> first | exact hr | trivial)
theorem oper_gd {n : Nat} {w : World} (p : Program) (listen : Bool) (fr : Frame) (cs : List Frame) (dy : Option Dying) (h : n ≤ w.drawn) : Gd n (stepG.oper p listen fr cs dy w) := by
  unfold stepG.oper
  repeat' split
  all_goals first | trivial | exact apply_gd p listen fr cs dy _ h
theorem exec_gd {n : Nat} {w : World} (p : Program) (main : Bool) (listen : Bool) (fr : Frame) (cs : List Frame) (dy : Option Dying) (h : n ≤ w.drawn) : Gd n (stepG.exec p main listen fr cs dy w) := by
  unfold stepG.exec
  extract_lets go to lost leave
  have hl : ∀ j, Gd n (leave j) := by
    intro j
    show Gd n (match fr.roundOf with
      | none => if j matches none | some .ret then go { fr with mode := .returning } w else lost "exit, goto: no such block or label"
      | some l =>
        let (r, es) := (Instr.endRound l j).runT p w #[]
        GStep.after (seen p fr.fn es) <| match r with
        | .ok v w => doReturn p main fr cs dy v w
        | .halt _ w => .ended (.stuck "range over a function: no such loop" (fr.pos p)) w)
    split
    · refine ite_gd ?_ ?_
      · exact h
      · trivial
    · rename_i l _
      have hr := runT_dr p n (Instr.endRound l j) w #[] h
      generalize (Instr.endRound l j).runT p w #[] = r at hr ⊢
      obtain ⟨r, es⟩ := r
      refine after_gd ?_
      split
      · exact doReturn_gd p main fr cs dy _ hr
      · trivial
  clear_value leave
  split
  all_goals first | exact hl _ | exact h | trivial | exact apply_gd p listen fr cs dy _ h | skip
  · split
    · exact h
    · trivial
  · rename_i id k _
    generalize exitTo id k = o
    cases o
    · exact hl _
    · exact h
  · rename_i l k _
    generalize gotoIn l k = o
    cases o
    · exact hl _
    · exact h
  · rename_i f params assign body k _
    have hr := runT_dr p n (Instr.enterLoop fr.fn fr.tmps params assign body fr.roundOf) w #[] h
    generalize (Instr.enterLoop fr.fn fr.tmps params assign body fr.roundOf).runT p w #[] = r at hr ⊢
    obtain ⟨r, es⟩ := r
    refine after_gd ?_
    split
    · exact apply_gd p listen _ cs dy _ hr
    · trivial
  · rename_i l k _
    have hr := runT_dr p n (Instr.endLoop l) w #[] h
    generalize (Instr.endLoop l).runT p w #[] = r at hr ⊢
    obtain ⟨r, es⟩ := r
    refine after_gd ?_
    split
    · exact hr
    · exact hr
    · trivial
  · rename_i row args k _
    generalize Extern.next row = o
    cases o
    · trivial
    · exact apply_gd p listen fr cs dy _ h
  · rename_i id ops draw k _
    refine ite_gd h ?_
    have hr := run_dr p n (choose (.order fr.fn id)) w h
    generalize (choose (.order fr.fn id)).run p w = r at hr ⊢
    split
    · exact hr
    · trivial
  · exact ite_gd (oper_gd p listen fr cs dy h) h
theorem stepG_gd {n : Nat} {w : World} (p : Program) (main : Bool) (g : Goroutine) (listen : Bool) (h : n ≤ w.drawn) : Gd n (stepG p main g w listen) := by
  unfold stepG
  split
  split
  · exact die_gd p _ _ h
  · exact exec_gd p main listen _ _ _ h
  · exact unwind_gd p main _ _ _ h
/-- a step's next machine has drawn at least n -/
def Sd (n : Nat) : Stepped → Prop
  | .next m => n ≤ m.world.drawn
  | .ended _ _ => True
theorem ok_dr {α : Type} {p : Program} {s : Sem α} {w w' : World} {a : α} {n : Nat} (e : s.run p w = .ok a w') (h : n ≤ w.drawn) : n ≤ w'.drawn := by
  have := run_dr p n s w h; rw [e] at this; exact this
theorem halt_dr {α : Type} {p : Program} {s : Sem α} {w w' : World} {a : Halt} {n : Nat} (e : s.run p w = .halt a w') (h : n ≤ w.drawn) : n ≤ w'.drawn := by
  have := run_dr p n s w h; rw [e] at this; exact this
theorem ite_sd {n : Nat} {c : Prop} [Decidable c] {a b : Stepped} (ha : Sd n a) (hb : Sd n b) : Sd n (if c then a else b) := by
  split <;> assumption
theorem look_sd {n : Nat} {w : World} (p : Program) (gs : Array Goroutine) (rest : Rest) (h : n ≤ w.drawn) : Sd n (look p gs rest w) := by
  unfold look
  split
  · split
    extract_lets
    split
    refine ite_sd trivial ?_
    · split
      · trivial
      · extract_lets
        split
        · rename_i e; have h' := ok_dr e h; exact h'
        · trivial
        · trivial
  · trivial
theorem comm_sd {n : Nat} {w : World} (p : Program) (rest : Rest) (gs : Array Goroutine) (i : Nat) (g : Goroutine) (cases : Array CommCase) (bl : Bool) (shape : CommShape) (h : n ≤ w.drawn) : Sd n (communicate p rest gs i g cases bl shape w).1 := by
  unfold communicate
  extract_lets put illMade me other
  split
  · trivial
  · split
    · split
      · split
        · rename_i w' e
          have : w'.drawn = w.drawn := by
            unfold waitingAt at e
            split at e
            · split at e
              · cases e; rfl
              · cases e
            · cases e; rfl
          show n ≤ w'.drawn
          omega
        · trivial
      · exact h
    · split
      · trivial
      · rename_i e
        have h := ok_dr e h
        extract_lets r
        split
        · split
          · rename_i e; exact halt_dr e h
          · trivial
        · exact h
        · exact h
        · extract_lets v buf
          split
          · exact h
          · split
            · rename_i e; have h' := ok_dr e h; exact h'
            · trivial
        · exact h
        · exact h
        · trivial
theorem drain_dr (w : World) (c : Nat) : (drain w c).2.drawn = w.drawn := by
  unfold drain; split <;> rfl
theorem retime_dr (m : Machine) (k : Nat) (t : Timer) (a b : Nat) : (retime m k t a b).2.world.drawn = m.world.drawn := by
  unfold retime
  split
  rename_i had world e
  show world.drawn = _
  split at e
  · have := drain_dr m.world ‹Nat›; rw [e] at this; exact this
  · cases e; rfl
theorem timerOp_dr {m m' : Machine} {op : TimerOp} {v : Value} (h : timerOp m op = .ok (v, m')) : m'.world.drawn = m.world.drawn := by
  unfold timerOp at h
  split at h
  · split at h
    · cases h; rfl
    · split at h
      · split at h
        · cases h
        · cases h; rfl
      · cases h
  · unfold timerOp.named at h
    split at h
    · cases h; exact retime_dr ..
    · cases h
  · split at h
    · rename_i m1 e
      have e1 : m1.world.drawn = m.world.drawn := by
        unfold timerOp.opened at e
        split at e
        · split at e
          · cases e; rfl
          · cases e
        · cases e; rfl
      unfold timerOp.named at h
      split at h
      · have h' := congrArg (fun x => match x with | Except.ok (_, m) => m.world.drawn | _ => 0) h
        simp only at h'
        rw [← h', ← e1]
        exact (retime_dr ..)
      · cases h
    · cases h
  · cases h; rfl
theorem serve_sd {n : Nat} {m : Machine} (p : Program) (k : Nat) (h : n ≤ m.world.drawn) : Sd n (serve p m k) := by
  unfold serve
  split
  · trivial
  · exact h
  · extract_lets delay next
    split
    · trivial
    · exact h
/-- what a move holds -/
def Md (n : Nat) : Move → Prop
  | .goroutine m _ => n ≤ m.world.drawn
  | .machine s _ => Sd n s
theorem askOn_md {n : Nat} {m : Machine} (p : Program) (h : n ≤ m.world.drawn) : Md n (askOn p m) := by
  unfold askOn
  extract_lets mono rs ds pick
  have hp : ∀ m : Machine, n ≤ m.world.drawn → Md n (pick m) := by
    intro m h
    show Md n (match (choose (.sched rs.length)).run p m.world with
      | .halt _ w => .machine (.ended (.stuck "sched" "") w)
      | .ok k world =>
        if rs.length ≤ 1 then .goroutine { m with world } (rs.getD k 0) else
        match (choose (.extern "sched.slice" 65536)).run p world with
        | .halt _ w => .machine (.ended (.stuck "sched.slice" "") w)
        | .ok n world => .goroutine { m with world, rest := { m.rest with slice := if n = 0 then none else some (rs.getD k 0, n) } } (rs.getD k 0))
    split
    · trivial
    · rename_i e
      have h := ok_dr e h
      split
      · exact h
      · split
        · trivial
        · rename_i e; exact ok_dr e h
  clear_value pick rs
  split
  · trivial
  · rename_i e
    have h := ok_dr e h
    extract_lets m
    split
    · exact serve_sd p _ h
    · split
      · split
        · exact h
        · split
          · exact h
          · split <;> trivial
      · split
        · exact hp _ h
        · split
          · trivial
          · rename_i e; have h' := ok_dr e h; exact hp _ h'
          · rename_i e; have h' := ok_dr e h; exact h'
          · rename_i e; have h' := ok_dr e h; exact hp _ h'
theorem ask_md {n : Nat} {m : Machine} (p : Program) (h : n ≤ m.world.drawn) : Md n (ask p m) := by
  unfold ask
  split
  · split
    · trivial
    · rename_i e
      have hl := look_sd p m.gs m.rest (ok_dr e h)
      split
      · rename_i e'; rw [e'] at hl; exact askOn_md p hl
      · exact hl
    · rename_i e; have h' := ok_dr e h; exact askOn_md p h'
  · exact askOn_md p h
theorem move_md {n : Nat} {m : Machine} (p : Program) (h : n ≤ m.world.drawn) : Md n (move p m) := by
  unfold move
  split
  · split
    · exact h
    · trivial
  · split
    · split
      · exact h
      · exact ask_md p h
    · exact ask_md p h
theorem pair_sd {n : Nat} {x : Stepped × Array MemOp} (h : Sd n x.1) (ops : Array MemOp) : Sd n (match x with | (r, more) => (r, ops ++ more)).1 := h
theorem done_sd {n : Nat} {x : Stepped} {ops : Array MemOp} (h : Sd n x) : Sd n ((x, ops) : Stepped × Array MemOp).1 := h
theorem runG_sd {n : Nat} {m : Machine} (p : Program) (i : Nat) (l : Bool) (h : n ≤ m.world.drawn) : Sd n (runT p m i l).1 := by
  unfold runT
  extract_lets rest world
  split
  rename_i g gs _
  extract_lets wake fn pos s ops done
  have hg : Gd n s := stepG_gd p (i == 0) g l h
  clear_value s
  split
  · trivial
  · exact pair_sd (comm_sd p rest gs i _ _ _ _ hg) _
  · exact hg
  · exact hg
  · exact ite_sd trivial hg
  · exact hg
  · exact look_sd p _ rest hg
  · exact hg
  · exact hg
  · refine done_sd (ops := ops) ?_
    split
    · exact hg
    · exact hg
    · trivial
  · refine done_sd (ops := ops) ?_
    split
    · rename_i e; have h' := timerOp_dr e; exact Nat.le_trans hg (Nat.le_of_eq h'.symm)
    · exact hg
    · trivial
    · trivial
/-- the machine's draws only grow -/
theorem step_drawn {P : Program} {m m' : Machine} (h : step P m = .next m') : m.world.drawn ≤ m'.world.drawn := by
  have hm := move_md (n := m.world.drawn) (m := m) P (Nat.le_refl _)
  unfold step stepT at h
  generalize move P m = mv at hm h
  cases mv with
  | goroutine m1 i => have := runG_sd (n := m.world.drawn) P i true (m := m1) hm; simp only at h; rw [h] at this; exact this
  | machine s ops => simp only at h; subst h; exact hm
theorem steps_drawn {P : Program} {m m' : Machine} (h : Steps P m m') : m.world.drawn ≤ m'.world.drawn := by
  obtain ⟨k, hk⟩ := h
  induction k generalizing m with
  | zero => simp only [runN] at hk; cases hk; exact Nat.le_refl _
  | succ k ih =>
    simp only [runN] at hk
    split at hk
    · rename_i e; exact Nat.le_trans (step_drawn e) (ih hk)
    · rename_i e; exact absurd hk (by intro hk; exact e _ hk)
/-- what a call yields, and that its world has drawn no less than the world it came from -/
theorem calls_drawn {P : Program} {f : FuncId} {args : Array Value} {w : World} {R : Ending → World → Prop} (h : Calls P f args w R) (hr : ∀ w', ¬R .outgrown w') :
    Calls P f args w fun e w' => R e w' ∧ w.drawn ≤ w'.drawn := by
  intro cs
  obtain ⟨e, w', fr, r, s, x⟩ := h cs
  refine ⟨e, w', fr, ⟨r, ?_⟩, s, x⟩
  cases e with
  | outgrown => exact absurd r (hr _)
  | returned v => exact steps_drawn s
  | panicked c => exact steps_drawn s
end Go.Proofs.YtgponoogifeopaaGreatDoor.Num.Dr
