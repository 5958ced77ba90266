/- The count of draws never falls: of every step, so of every call. -/
import Derived.Calls
import Derived.Below
import Derived.Sort.Grow
import Derived.Deep.QuietTactic
namespace Go.Proofs.Yteiddebjbiadbaa
open Go.RowKit

def RGe (d : Nat) {α : Type} : Result α → Prop
  | .ok _ w => d ≤ w.drawn
  | .halt _ w => d ≤ w.drawn
def GGe (d : Nat) : GStep → Prop
  | .go _ w _ => d ≤ w.drawn
  | .comm _ _ _ _ w _ => d ≤ w.drawn
  | .spawn _ _ w _ => d ≤ w.drawn
  | .count _ w _ => d ≤ w.drawn
  | .timer _ _ w _ => d ≤ w.drawn
  | .alone _ _ w _ => d ≤ w.drawn
  | .newcoro _ _ _ w _ => d ≤ w.drawn
  | .coroswitch _ _ _ w _ => d ≤ w.drawn
  | .collect _ w _ => d ≤ w.drawn
  | .watch _ w _ => d ≤ w.drawn
  | .ended _ w _ => d ≤ w.drawn
def SGe (d : Nat) : Stepped → Prop
  | .next m => d ≤ m.world.drawn
  | .ended _ _ => True

theorem ask_ge {α : Type} {d : Nat} (a : Ask α) (w : World) (h : d ≤ w.drawn) : d ≤ (w.ask a).2.drawn := by
  induction a generalizing w with
  | done a => exact h
  | ask what range k ih =>
    unfold World.ask
    dsimp only
    split
    · exact ih _ _ h
    · exact ih _ _ (Nat.le_succ_of_le h)
theorem sys_ge {d : Nat} (c : Sys) (w : World) (h : d ≤ w.drawn) : d ≤ (w.sys c).2.drawn := by
  unfold World.sys
  have := ask_ge (Kernel.perform c w.os) w h
  split
  · exact h
  · rename_i h1
    rw [h1] at this
    exact this
theorem viewStore_drawn {p : Program} {w w' : World} {at_ : Addr} {u : TypeId} {k : Addr} {v : Value} {b : Bool} {l : List Addr} (h : w.viewStore p at_ u k v b = .ok (w', l)) : w'.drawn = w.drawn := by
  unfold World.viewStore at h
  simp only [bind, Except.bind, pure, Except.pure] at h
  repeat' split at h
  all_goals first | (cases h; rfl) | cases h
theorem farStore_drawn {p : Program} {w w' : World} {a : Addr} {v : Value} {b : Bool} {l : List Addr} (h : w.farStore p a v b = .ok (w', l)) : w'.drawn = w.drawn := by
  unfold World.farStore at h
  split at h
  · split at h
    · rename_i h1
      cases h
      exact viewStore_drawn h1
    · cases h
  · cases h
theorem run_ge {α : Type} {d : Nat} (p : Program) (s : Sem α) (w : World) (h : d ≤ w.drawn) : RGe d (s.run p w) := by
  induction s generalizing w with
  | pure a => exact h
  | load m a k ih =>
    unfold Sem.run
    split
    · exact ih _ _ h
    · split
      · exact ih _ _ h
      · exact h
  | store m a v k ih =>
    cases v
    case agg => exact h
    case tuple => exact h
    all_goals
      unfold Sem.run
      split
      · split
        · exact h
        · exact ih _ h
      · split
        · rename_i h1
          exact ih _ (by rw [farStore_drawn h1]; exact h)
        · exact h
  | new o k ih => exact ih _ _ h
  | shape r k ih => exact ih _ _ h
  | freeze a n k ih =>
    refine ih _ ?_
    unfold World.freeze
    split <;> exact h
  | frozen a k ih => exact ih _ _ h
  | getObj r k ih =>
    unfold Sem.run
    split
    · exact h
    · exact ih _ _ h
    · exact h
  | setObj r o k ih =>
    unfold Sem.run
    split
    · exact h
    · exact ih _ h
    · exact h
  | choose q k ih =>
    unfold Sem.run
    split
    · exact ih _ _ h
    · exact ih _ _ (Nat.le_succ_of_le h)
  | sys c k ih => exact ih _ _ (sys_ge c w h)
  | program k ih => exact ih _ _ h
  | mark m k ih => exact ih _ h
  | halt x => exact h
theorem runT_ge {α : Type} {d : Nat} (p : Program) (s : Sem α) (w : World) (es : Array Event) (h : d ≤ w.drawn) : RGe d (s.runT p w es).1 := by
  induction s generalizing w es with
  | pure a => exact h
  | load m a k ih =>
    unfold Sem.runT
    split
    · exact ih _ _ _ h
    · split
      · exact ih _ _ _ h
      · exact h
  | store m a v k ih =>
    cases v
    case agg => exact h
    case tuple => exact h
    all_goals
      unfold Sem.runT
      split
      · split
        · exact h
        · exact ih _ _ h
      · split
        · rename_i h1
          exact ih _ _ (by rw [farStore_drawn h1]; exact h)
        · exact h
  | new o k ih => exact ih _ _ _ h
  | shape r k ih => exact ih _ _ _ h
  | freeze a n k ih =>
    refine ih _ _ ?_
    unfold World.freeze
    split <;> exact h
  | frozen a k ih => exact ih _ _ _ h
  | getObj r k ih =>
    unfold Sem.runT
    split
    · exact h
    · exact ih _ _ _ h
    · exact h
  | setObj r o k ih =>
    unfold Sem.runT
    split
    · exact h
    · exact ih _ _ h
    · exact h
  | choose q k ih =>
    unfold Sem.runT
    split
    · exact ih _ _ _ h
    · exact ih _ _ _ (Nat.le_succ_of_le h)
  | sys c k ih => exact ih _ _ _ (sys_ge c w h)
  | program k ih => exact ih _ _ _ h
  | mark m k ih => exact ih _ _ h
  | halt x => exact h

theorem run_ok {α : Type} {d : Nat} {p : Program} {s : Sem α} {w w' : World} {v : α} (e : s.run p w = .ok v w') (h : d ≤ w.drawn) : d ≤ w'.drawn := by
  have := run_ge p s w h; rw [e] at this; exact this
theorem run_halt {α : Type} {d : Nat} {p : Program} {s : Sem α} {w w' : World} {x : Halt} (e : s.run p w = .halt x w') (h : d ≤ w.drawn) : d ≤ w'.drawn := by
  have := run_ge p s w h; rw [e] at this; exact this
theorem runT_ok {α : Type} {d : Nat} {p : Program} {s : Sem α} {w w' : World} {v : α} {es : Array Event} (e : (s.runT p w es).1 = .ok v w') (h : d ≤ w.drawn) : d ≤ w'.drawn := by
  have := runT_ge p s w es h; rw [e] at this; exact this
theorem runT_halt {α : Type} {d : Nat} {p : Program} {s : Sem α} {w w' : World} {x : Halt} {es : Array Event} (e : (s.runT p w es).1 = .halt x w') (h : d ≤ w.drawn) : d ≤ w'.drawn := by
  have := runT_ge p s w es h; rw [e] at this; exact this
theorem runT_ok2 {α : Type} {d : Nat} {p : Program} {s : Sem α} {w w' : World} {v : α} {es es' : Array Event} (e : s.runT p w es = (.ok v w', es')) (h : d ≤ w.drawn) : d ≤ w'.drawn := runT_ok (by rw [e]) h
theorem runT_halt2 {α : Type} {d : Nat} {p : Program} {s : Sem α} {w w' : World} {x : Halt} {es es' : Array Event} (e : s.runT p w es = (.halt x w', es')) (h : d ≤ w.drawn) : d ≤ w'.drawn := runT_halt (by rw [e]) h

theorem gge_ite {d : Nat} {c : Prop} [Decidable c] {a b : GStep} (ha : GGe d a) (hb : GGe d b) : GGe d (if c then a else b) := by split <;> assumption
theorem sge_ite {d : Nat} {c : Prop} [Decidable c] {a b : Stepped} (ha : SGe d a) (hb : SGe d b) : SGe d (if c then a else b) := by split <;> assumption
theorem after_ge {d : Nat} (es : Array Event) (g : GStep) (h : GGe d g) : GGe d (g.after es) := by cases g <;> exact h
theorem endWith_ge {d : Nat} (w : World) (fd : Nat) (t : ByteArray) (o : Outcome) (h : d ≤ w.drawn) : GGe d (endWith w fd t o) := by
  have := sys_ge (.write fd t) w h
  unfold endWith
  dsimp only
  split
  · rename_i h1; rw [h1] at this; split <;> exact this
  · rename_i h1; rw [h1] at this; exact this
  · rename_i h1; rw [h1] at this; exact this
theorem endPrinting_ge {d : Nat} (p : Program) (fr : Frame) (v : Value) (w : World) (h : d ≤ w.drawn) : GGe d (endPrinting p fr v w) := by
  unfold endPrinting
  dsimp only
  split <;> exact h
theorem endFatal_ge {d : Nat} (p : Program) (fr : Frame) (cs : List Frame) (dy : Option Dying) (m : String) (w : World) (h : d ≤ w.drawn) : GGe d (endFatal p fr cs dy m w) := by
  unfold endFatal
  dsimp only
  split
  all_goals
    rename_i h1
    first | exact run_ok h1 h | exact run_halt h1 h
theorem writeOn_ge {d : Nat} (p : Program) (fr : Frame) (dy : Dying) (f : Fatal) (w : World) (h : d ≤ w.drawn) : GGe d (writeOn p fr dy f w) := by
  unfold writeOn
  dsimp only
  split
  · exact h
  · split
    all_goals
      rename_i h1
      first | exact runT_ok2 h1 h | exact runT_halt2 h1 h | (rename_i h2; first | exact runT_ok2 h2 h | exact runT_halt2 h2 h)
theorem die_ge {d : Nat} (p : Program) (fr : Frame) (dy : Dying) (w : World) (h : d ≤ w.drawn) : GGe d (die p fr dy w) := by
  unfold die
  split
  · exact writeOn_ge _ _ _ _ _ h
  · split
    · split
      · exact h
      · exact endWith_ge _ _ _ _ h
    · dsimp only
      split
      · exact h
      · split
        all_goals
          rename_i h1
          first | exact run_ok h1 h | exact run_halt h1 h
      · refine after_ge _ _ ?_
        split
        all_goals first
          | exact h
          | (rename_i h1; first | exact runT_ok h1 h | exact runT_halt h1 h | exact endPrinting_ge _ _ _ _ (runT_halt h1 h))
      · exact h
theorem doReturn_ge {d : Nat} (p : Program) (main : Bool) (fr : Frame) (cs : List Frame) (dy : Option Dying) (v : Value) (w : World) (h : d ≤ w.drawn) : GGe d (doReturn p main fr cs dy v w) := by
  unfold doReturn
  repeat' split
  all_goals exact h
theorem callDeferred_ge {d : Nat} (p : Program) (fr : Frame) (cs : List Frame) (dy : Option Dying) (df : Deferred) (w : World) (h : d ≤ w.drawn) : GGe d (callDeferred p fr cs dy df w) := by
  unfold callDeferred
  refine gge_ite ?_ ?_
  · exact h
  · refine after_ge _ _ ?_
    split
    all_goals
      rename_i h1
      first
        | exact runT_ok h1 h
        | exact runT_halt h1 h
        | exact endFatal_ge _ _ _ _ _ _ (runT_halt h1 h)
        | (split <;> exact runT_ok h1 h)
        | (rename_i h2; first | exact runT_ok h2 h | exact runT_halt h2 h)
theorem unwind_ge {d : Nat} (p : Program) (main : Bool) (fr : Frame) (cs : List Frame) (dy : Option Dying) (w : World) (h : d ≤ w.drawn) : GGe d (unwind p main fr cs dy w) := by
  unfold unwind
  split
  · refine after_ge _ _ ?_
    split
    all_goals
      rename_i h1
      first | exact runT_ok h1 h | exact runT_halt h1 h
  · exact callDeferred_ge _ _ _ _ _ _ h
  · split
    · exact h
    · split
      · exact h
      · split
        · exact h
        · split
          · split
            · exact h
            · split
              all_goals
                rename_i h1
                first | exact run_ok h1 h | exact run_halt h1 h
          · split
            · exact endPrinting_ge _ _ _ _ h
            · exact h
    · split
      · exact doReturn_ge _ _ _ _ _ _ _ h
      · refine after_ge _ _ ?_
        split
        all_goals
          rename_i h1
          first | exact doReturn_ge _ _ _ _ _ _ _ (runT_ok h1 h) | exact runT_halt h1 h
theorem early_ge {d : Nat} (p : Program) (fr : Frame) (cs : List Frame) (dy : Option Dying) (g : Nat) (w : World) (h : d ≤ w.drawn) : GGe d (early p fr cs dy g w) := by
  have hn : ∀ (w : World), d ≤ w.drawn → GGe d (match w.heap[g]? with
    | some (.pending c elem) => .go { frame := fr, callers := cs, status := .running, dying := dy } { w with heap := w.heap.setIfInBounds g (.cells c elem) }
    | _ => .ended (.stuck "early: the variable does not wait" (fr.pos p)) w) := by
    intro w h
    split <;> exact h
  unfold early
  dsimp only
  split
  · exact hn w h
  · split
    · exact h
    · split
      · exact hn w h
      · split
        · exact hn w h
        · split
          · exact h
          · exact h
          · exact h
          · exact hn w h
          · split
            · exact h
            · split
              · exact hn w h
              · split
                all_goals
                  rename_i h1
                  first | exact hn _ (run_ok h1 h) | exact run_ok h1 h | exact run_halt h1 h | (rename_i h2; first | exact hn _ (run_ok h2 h) | exact run_ok h2 h | exact run_halt h2 h)
theorem apply_ge {d : Nat} (p : Program) (fr : Frame) (cs : List Frame) (dy : Option Dying) (listen : Bool) (s : Sem Next) (w : World) (h : d ≤ w.drawn) : GGe d (stepG.apply p listen fr cs dy s w) := by
  have hr : RGe d (if listen then s.runT p w #[] else (s.run p w, #[])).1 := by
    split
    · exact runT_ge _ _ _ _ h
    · exact run_ge _ _ _ h
  unfold stepG.apply
  dsimp only
  refine after_ge _ _ ?_
  generalize (if listen then s.runT p w #[] else (s.run p w, #[])).1 = r at *
  cases r with
  | ok v w1 =>
    have h1 : d ≤ w1.drawn := hr
    cases v
    all_goals try dsimp only
    all_goals first
      | exact h1
      | (split <;> exact h1)
      | (split <;> split <;> exact h1)
      | exact gge_ite h1 h1
  | halt x w1 =>
    have h1 : d ≤ w1.drawn := hr
    cases x
    case unsupported u =>
      cases u
      all_goals first | exact h1 | exact early_ge _ _ _ _ _ _ h1
    all_goals first
      | exact h1
      | exact endFatal_ge _ _ _ _ _ _ h1
theorem oper_ge {d : Nat} (p : Program) (listen : Bool) (fr : Frame) (cs : List Frame) (dy : Option Dying) (w : World) (h : d ≤ w.drawn) : GGe d (stepG.oper p listen fr cs dy w) := by
  unfold stepG.oper
  split
  · exact h
  · split <;> exact apply_ge _ _ _ _ _ _ _ h
theorem leave_ge {d : Nat} (p : Program) (main : Bool) (fr : Frame) (cs : List Frame) (dy : Option Dying) (w : World) (l : Nat) (jump : Option Code) (h : d ≤ w.drawn) :
    GGe d (match ((Instr.endRound l jump).runT p w #[]).1 with
        | .ok v w => doReturn p main fr cs dy v w
        | .halt _ w => .ended (.stuck "range over a function: no such loop" (fr.pos p)) w) := by
  split
  · rename_i h1; exact doReturn_ge _ _ _ _ _ _ _ (runT_ok h1 h)
  · rename_i h1; exact runT_halt h1 h
theorem exec_ge {d : Nat} (p : Program) (main : Bool) (listen : Bool) (fr : Frame) (cs : List Frame) (dy : Option Dying) (w : World) (h : d ≤ w.drawn) : GGe d (stepG.exec p main listen fr cs dy w) := by
  unfold stepG.exec
  dsimp only
  split
  case h_1 | h_2 =>
    split
    · exact h
    · exact after_ge _ _ (leave_ge _ _ _ _ _ _ _ _ h)
  case h_8 => split <;> exact h
  case h_13 =>
    cases exitTo _ _ with
    | some t => exact h
    | none =>
      dsimp only [Option.elim]
      split
      · exact h
      · exact after_ge _ _ (leave_ge _ _ _ _ _ _ _ _ h)
  case h_14 =>
    cases gotoIn _ _ with
    | some t => exact h
    | none =>
      dsimp only [Option.elim]
      split
      · exact h
      · exact after_ge _ _ (leave_ge _ _ _ _ _ _ _ _ h)
  case h_15 =>
    refine after_ge _ _ ?_
    split
    · rename_i h1; exact apply_ge _ _ _ _ _ _ _ (runT_ok h1 h)
    · rename_i h1; exact runT_halt h1 h
  case h_17 | h_20 => exact apply_ge _ _ _ _ _ _ _ h
  case h_18 =>
    refine after_ge _ _ ?_
    split
    all_goals
      rename_i h1
      first | exact runT_ok h1 h | exact runT_halt h1 h | (rename_i h2; first | exact runT_ok h2 h | exact runT_halt h2 h)
  case h_21 =>
    cases Extern.next _ with
    | none => exact h
    | some e => exact apply_ge _ _ _ _ _ _ _ h
  case h_22 =>
    split
    · exact h
    · split
      · rename_i h1; exact run_ok h1 h
      · rename_i h1; exact run_halt h1 h
  case h_24 =>
    split
    · exact oper_ge _ _ _ _ _ _ h
    · exact h
  all_goals exact h
theorem stepG_ge {d : Nat} (p : Program) (main : Bool) (g : Goroutine) (w : World) (listen : Bool) (h : d ≤ w.drawn) : GGe d (stepG p main g w listen) := by
  unfold stepG
  split
  split
  · exact die_ge _ _ _ _ h
  · exact exec_ge _ _ _ _ _ _ _ h
  · exact unwind_ge _ _ _ _ _ _ h
theorem communicate_ge {d : Nat} (p : Program) (rest : Rest) (gs : Array Goroutine) (i : Nat) (g : Goroutine) (cases_ : Array CommCase) (bl : Bool) (sh : CommShape) (w : World) (h : d ≤ w.drawn) : SGe d (communicate p rest gs i g cases_ bl sh w).1 := by
  unfold communicate
  dsimp only
  split
  · trivial
  · split
    · split
      · split
        · rename_i h1
          unfold waitingAt at h1
          split at h1
          · split at h1
            · cases h1; exact h
            · cases h1
          · cases h1; exact h
        · trivial
      · exact h
    · split
      · trivial
      · rename_i h1
        have h2 := run_ok h1 h
        clear h1
        split
        · split
          · rename_i h3; exact run_halt h3 h2
          · trivial
        · exact h2
        · exact h2
        · split
          · exact h2
          · split
            · rename_i h3; have h4 := run_ok h3 h2; exact h4
            · trivial
        · exact h2
        · exact h2
        · trivial
theorem drain_ge {d : Nat} (w : World) (c : Nat) (h : d ≤ w.drawn) : d ≤ (drain w c).2.drawn := by
  unfold drain
  split <;> exact h
theorem retime_ge {d : Nat} (m : Machine) (k : Nat) (t : Timer) (a b : Nat) (h : d ≤ m.world.drawn) : d ≤ (retime m k t a b).2.world.drawn := by
  unfold retime
  cases t.chan with
  | none => exact h
  | some c => exact drain_ge _ _ h
theorem named_ge {d : Nat} (m m' : Machine) (var : Addr) (f : Nat → Timer → Value × Machine) (v : Value) (hf : ∀ k t, d ≤ (f k t).2.world.drawn) (e : timerOp.named m var f = .ok (v, m')) : d ≤ m'.world.drawn := by
  unfold timerOp.named at e
  split at e
  · rename_i k h1
    have h2 := hf k (m.rest.timers.getD k default)
    have e2 := Except.ok.inj e
    rw [e2] at h2
    exact h2
  · cases e
theorem opened_ge {d : Nat} (m m' : Machine) (var : Addr) (h : d ≤ m.world.drawn) (e : timerOp.opened m var = some m') : d ≤ m'.world.drawn := by
  unfold timerOp.opened at e
  split at e
  · split at e
    · cases e; exact h
    · cases e
  · cases e; exact h
theorem timerOp_ge {d : Nat} (m m' : Machine) (o : TimerOp) (v : Value) (h : d ≤ m.world.drawn) (e : timerOp m o = .ok (v, m')) : d ≤ m'.world.drawn := by
  unfold timerOp at e
  split at e
  · split at e
    · cases e; exact h
    · split at e
      · split at e
        · cases e
        · cases e; exact h
      · cases e
  · exact named_ge _ _ _ _ _ (fun k t => retime_ge _ _ _ _ _ h) e
  · split at e
    · rename_i m1 h1
      exact named_ge _ _ _ _ _ (fun k t => retime_ge _ _ _ _ _ (opened_ge _ _ _ h h1)) e
    · cases e
  · cases e; exact h
theorem look_ge {d : Nat} (p : Program) (gs : Array Goroutine) (rest : Rest) (w : World) (h : d ≤ w.drawn) : SGe d (look p gs rest w) := by
  unfold look
  dsimp only
  split
  · split
    · trivial
    · split
      · trivial
      · split
        · rename_i h1; have h4 := run_ok h1 h; exact h4
        · trivial
        · trivial
  · trivial
theorem serve_ge {d : Nat} (p : Program) (m : Machine) (k : Nat) (h : d ≤ m.world.drawn) : SGe d (serve p m k) := by
  unfold serve
  split
  · trivial
  · exact h
  · dsimp only
    split
    · trivial
    · exact h
theorem machine_ge {d : Nat} (p : Program) (m : Machine) (i : Nat) (listen : Bool) (h : d ≤ m.world.drawn) : SGe d (runT p m i listen).1 := by
  unfold runT
  dsimp only
  generalize hs : m.gs.swapAt! i _ = sw
  have hg := stepG_ge p (i == 0) sw.1 m.world listen h
  revert hg
  generalize stepG p (i == 0) sw.1 m.world listen = s
  intro hg
  cases s with
  | go g w es => exact hg
  | comm g c b sh w es => exact communicate_ge _ _ _ _ _ _ _ _ _ hg
  | spawn g c w es => exact hg
  | count g w es =>
    dsimp only
    split
    · trivial
    · exact hg
  | timer g op w es =>
    dsimp only
    split
    · rename_i h1; have h4 := timerOp_ge { world := w, gs := sw.snd, rest := m.rest } _ op _ hg h1; exact h4
    · split
      · rename_i h1
        unfold endThrow dieOf at h1
        cases h1
        exact hg
      · trivial
    · trivial
    · trivial
  | alone g on w es => exact hg
  | newcoro g c dd w es => exact hg
  | coroswitch g c ex w es =>
    dsimp only
    split
    · exact hg
    · split
      · rename_i h1
        unfold endThrow dieOf at h1
        cases h1
        exact hg
      · trivial
    · trivial
  | collect g w es => exact look_ge _ _ _ _ hg
  | watch g w es => exact hg
  | ended o w es => trivial

def MGe (d : Nat) : Move → Prop
  | .goroutine m _ => d ≤ m.world.drawn
  | .machine s _ => SGe d s
theorem pick_ge {d : Nat} (p : Program) (rs : List Nat) (m : Machine) (h : d ≤ m.world.drawn) : MGe d (match (choose (.sched rs.length)).run p m.world with
      | .halt _ w => .machine (.ended (.stuck "sched" "") w)
      | .ok k world =>
        if rs.length ≤ 1 then .goroutine { m with world } (rs.getD k 0) else
        match (choose (.extern "sched.slice" 65536)).run p world with
        | .halt _ w => .machine (.ended (.stuck "sched.slice" "") w)
        | .ok n world => .goroutine { m with world, rest := { m.rest with slice := if n = 0 then none else some (rs.getD k 0, n) } } (rs.getD k 0)) := by
  split
  · trivial
  · rename_i h1
    have h2 := run_ok h1 h
    split
    · exact h2
    · split
      · trivial
      · rename_i h3
        have h4 := run_ok h3 h2
        exact h4
theorem askOn_ge {d : Nat} (p : Program) (m : Machine) (h : d ≤ m.world.drawn) : MGe d (askOn p m) := by
  unfold askOn
  dsimp only
  split
  · trivial
  · rename_i h1
    have h2 := run_ok h1 h
    split
    · exact serve_ge p _ _ h2
    · split
      · split
        · exact h2
        · split
          · exact h2
          · split <;> trivial
      · split
        · exact pick_ge p _ { m with world := _ } h2
        · split
          · trivial
          · rename_i h3
            have h4 := run_ok h3 h2
            exact pick_ge p _ { m with world := _ } h4
          · rename_i h3
            have h4 := run_ok h3 h2
            exact h4
          · rename_i h3
            have h4 := run_ok h3 h2
            exact pick_ge p _ (Machine.advanceTo { m with world := _ } _) h4
theorem ask_move_ge {d : Nat} (p : Program) (m : Machine) (h : d ≤ m.world.drawn) : MGe d (ask p m) := by
  unfold ask
  split
  · split
    · trivial
    · rename_i h1
      have h2 := run_ok h1 h
      have h3 := look_ge p m.gs m.rest _ h2
      split
      · rename_i h4
        rw [h4] at h3
        exact askOn_ge _ _ h3
      · exact h3
    · rename_i h1
      have h2 := run_ok h1 h
      exact askOn_ge _ _ h2
  · exact askOn_ge _ _ h
theorem move_ge {d : Nat} (p : Program) (m : Machine) (h : d ≤ m.world.drawn) : MGe d (move p m) := by
  unfold move
  split
  · split
    · exact h
    · trivial
  · split
    · split
      · exact h
      · exact ask_move_ge _ _ h
    · exact ask_move_ge _ _ h
theorem step_ge {d : Nat} (p : Program) (m : Machine) (h : d ≤ m.world.drawn) : SGe d (step p m) := by
  have hm := move_ge p m h
  unfold step stepT
  revert hm
  generalize move p m = mv
  intro hm
  cases mv with
  | goroutine m i => exact machine_ge _ _ _ _ hm
  | machine s ops => exact hm
theorem steps_ge {p : Program} {m m' : Machine} (h : Steps p m m') : m.world.drawn ≤ m'.world.drawn := by
  obtain ⟨n, hn⟩ := h
  induction n generalizing m with
  | zero => simp only [runN] at hn; cases hn; exact Nat.le_refl _
  | succ n ih =>
    simp only [runN] at hn
    have hs := step_ge p m (Nat.le_refl _)
    split at hn
    · rename_i h1
      rw [h1] at hs
      exact Nat.le_trans hs (ih hn)
    · rename_i h1
      exact absurd hn (h1 _)

/-- A call that returns has drawn, if it has drawn, more. -/
theorem calls_drawn {p : Program} {f : FuncId} {args : Array Value} {w : World} {R : Ending → World → Prop} (h : Calls p f args w R) (hr : ∀ e w', R e w' → ∃ v, e = .returned v) :
    Calls p f args w fun e w' => R e w' ∧ w.drawn ≤ w'.drawn := by
  intro cs
  obtain ⟨e, w', fr, h1, h2, h3⟩ := h cs
  obtain ⟨v, rfl⟩ := hr e w' h1
  exact ⟨_, w', fr, ⟨h1, steps_ge h2⟩, h2, h3⟩
/-- What is new above a world is drawn and laid behind it. -/
theorem grown_of {w w' : World} (hb : Below w.heap.size w w') (hd : w.drawn ≤ w'.drawn) : ∃ q os, w' = Go.Sort.grow (w.drewN q) os := by
  refine ⟨w'.drawn - w.drawn, w'.heap.extract w.heap.size w'.heap.size, ?_⟩
  obtain ⟨heap, tape, drawn, os, output⟩ := w
  obtain ⟨heap', tape', drawn', os', output'⟩ := w'
  obtain ⟨h1, h2, h3, h4, h5⟩ := hb
  dsimp only at h1 h2 h3 h4 h5 hd
  subst h1 h2 h3
  have e1 : drawn + (drawn' - drawn) = drawn' := by omega
  have e2 : heap ++ heap'.extract heap.size heap'.size = heap' := by
    apply Array.ext
    · simp; omega
    · intro k k1 k2
      have h6 := h5 k
      by_cases hk : k < heap.size
      · have h7 := h6 hk
        rw [Array.getElem?_eq_getElem k2, Array.getElem?_eq_getElem hk] at h7
        rw [Array.getElem_append_left hk]
        exact (Option.some.inj h7).symm
      · rw [Array.getElem_append_right (by omega)]
        simp only [Array.getElem_extract]
        congr 1
        omega
  unfold Go.Sort.grow World.drewN
  simp only [e1, e2]
theorem calls_grown {p : Program} {f : FuncId} {args : Array Value} {w : World} {v : Value} (h : Calls p f args w fun e w' => e = .returned v ∧ Below w.heap.size w w') :
    Calls p f args w fun e w' => e = .returned v ∧ ∃ q os, w' = Go.Sort.grow (w.drewN q) os :=
  (calls_drawn h fun _ _ h => ⟨_, h.1⟩).mono fun _ _ h => ⟨h.1.1, grown_of h.1.2 h.2⟩
end Go.Proofs.Yteiddebjbiadbaa
