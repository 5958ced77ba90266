/- terminal: Begin, End, Type, Show, ReadLine. -/
import Derived.Test.YtfobmfenjdiimaaGreatDoorTermH
namespace Go.Proofs.YtfobmfenjdiimaaGreatDoor
open Go.RowKit
attribute [local go_sem ↓] Go.wp_at_zero Go.wp_at_succ

theorem callFunc_in {P : Program} {f : FuncId} {fn : Func} (hf : P.funcs[f]? = some fn) (hname : (fn.name == "runtime.NumGoroutine") = false) (hb : fn.body.isNone = false) (args : Array Value) (w : World) : (callFunc f args).run P w = .ok (.enter f args) w := by
  have h1 : fn.name ≠ "runtime.NumGoroutine" := by simpa using hname
  have h2 : fn.body ≠ none := fun e => by rw [e] at hb; cases hb
  simp [callFunc, hf, h1, h2]

/-- What the law must hold ready for an operation on terminal number in epoch. -/
structure Ready (V : AV) (number epoch : Int) : Prop where
  size : (avGet V (ofTerm number)).1.size ≤ 35184372088832
  len : V.calls.length < 1000000
  small : Small (tGet V number epoch).1

theorem showS_size (a b : ByteArray) : (showS a b).size ≤ a.size + b.size := by
  unfold showS
  split
  · rw [ByteArray.size_extract, ByteArray.size_append]; omega
  · rw [ByteArray.size_append]; omega

theorem small_begin {l : ByteArray} {t : TermT} (h : Small t) (hl : l.size ≤ 1000) : Small2 (opBegin l t).1 := by
  unfold opBegin
  split
  · exact ⟨h.session, Nat.le_trans h.screen (by decide), Nat.le_trans h.typed (by decide), fun s hs => Nat.le_trans (h.lines s hs) (by decide)⟩
  · split
    · exact ⟨h.session, Nat.le_trans h.screen (by decide), Nat.le_trans h.typed (by decide), fun s hs => Nat.le_trans (h.lines s hs) (by decide)⟩
    · exact ⟨hl, Nat.zero_le _, Nat.zero_le _, fun s hs => by cases hs⟩
theorem small_end {l : ByteArray} {t : TermT} (h : Small t) : Small2 (opEnd l t).1 := by
  unfold opEnd
  split
  · exact ⟨h.session, Nat.le_trans h.screen (by decide), Nat.le_trans h.typed (by decide), fun s hs => Nat.le_trans (h.lines s hs) (by decide)⟩
  · exact ⟨Nat.zero_le _, Nat.le_trans h.screen (by decide), Nat.zero_le _, fun s hs => by cases hs⟩
theorem small_add {l : ByteArray} {t : TermT} (h : Small t) : Small2 (opAdd l t).1 := by
  have h0 : Small2 t := ⟨h.session, Nat.le_trans h.screen (by decide), Nat.le_trans h.typed (by decide), fun s hs => Nat.le_trans (h.lines s hs) (by decide)⟩
  unfold opAdd
  split
  · exact h0
  · rename_i hA
    have hl : l.size ≤ 1024 := lineE_size (by simpa using hA)
    split
    · exact h0
    · split
      · exact h0
      · refine ⟨h.session, ?_, ?_, fun s hs => ?_⟩
        · have h1 := showS_size t.screen (l ++ ⟨#[10]⟩)
          rw [ByteArray.size_append] at h1
          have h2 : (⟨#[10]⟩ : ByteArray).size = 1 := rfl
          have := h.screen
          dsimp only
          omega
        · have := h.typed
          simp
          omega
        · simp only [List.mem_append, List.mem_singleton] at hs
          rcases hs with hs | rfl
          · exact h0.lines s hs
          · omega
theorem small_show {l : ByteArray} {t : TermT} (h : Small t) : Small2 (opShow l t).1 := by
  have h0 : Small2 t := ⟨h.session, Nat.le_trans h.screen (by decide), Nat.le_trans h.typed (by decide), fun s hs => Nat.le_trans (h.lines s hs) (by decide)⟩
  unfold opShow
  split
  · exact h0
  · refine ⟨h.session, ?_, h0.typed, h0.lines⟩
    have h1 := showS_size t.screen l
    have := h.screen
    dsimp only
    omega
theorem small_take {l : ByteArray} {t : TermT} (h : Small t) : Small2 (opTake l t).1 := by
  have h0 : Small2 t := ⟨h.session, Nat.le_trans h.screen (by decide), Nat.le_trans h.typed (by decide), fun s hs => Nat.le_trans (h.lines s hs) (by decide)⟩
  unfold opTake
  split
  · exact h0
  · split
    · exact h0
    · refine ⟨h.session, h0.screen, ?_, fun s hs => h0.lines s (List.mem_of_mem_drop hs)⟩
      have := h.typed
      simp
      omega

/-- What an operation leaves: an error, and the view. -/
def EPost (h : VH) (w : World) (p : AV × Nat) (r : Ending) (w' : World) : Prop := r = .returned (.int .i64 p.2) ∧ VPost h w p.1 w'
theorem ChPost.e {h : VH} {w : World} {p : AV × Nat} {Q : World → Prop} {r : Ending} {w' : World} (c : ChPost h (fun _ => False) w p Q r w') : EPost h w p r w' := by
  obtain ⟨h', h1, ⟨a1, a2, a3, a4, a5, a6, a7, a8⟩, _⟩ := c
  exact ⟨h1, h', a1, a2, a3, a4, a5, a6, a7.mono (fun _ _ h => h.elim id False.elim), a8⟩

set_option maxRecDepth 100000 in
set_option maxHeartbeats 1000000 in
theorem tBegin_any (h : VH) (V : AV) (number epoch : Int) (l : ByteArray) (w : World) (hv : ViewAt w h V) (hr : Ready V number epoch) (hl : l.size ≤ 1000) :
    Calls Tryz.prog 19 #[.pointer (some ⟨h.b, 0, none⟩), .int .i64 number, .int .i64 epoch, .string l] w (EPost h w (tChange (opBegin l) V number epoch)) := by
  have hmf : ∀ (fn : Fn) (first cap : Array Value) (w : World), (Instr.makeFunc fn first cap).run Tryz.prog w = .ok (.func fn first cap) w := fun _ _ _ _ => rfl
  have Hv := Lib.hid hv; clear hv
  have Hr := Lib.hid hr; clear hr
  have hop : OpSpec 45 (.string l) (opBegin l) (fun _ => False) w (fun _ _ => True) := fun W X t a n c ht hX hs _ _ _ =>
    (begin_any l X t.epoch t.session t.screen t.typed (.slice a n c) _ (.inl rfl) W (by omega) hX).mono (fun r w' hp => ⟨hp, fun _ => trivial⟩)
  have Hop := Lib.hid hop; clear hop
  go_enter Tryz.func19, Tryz.ntmps19
  go_wp2_with fail
  refine (change_any h V number epoch _ _ (opBegin l) (fun _ => False) (fun _ _ => True) _ Hv.out Hr.out.size Hr.out.len Hr.out.small (small_begin Hr.out.small hl) (fun _ hk => hk.elim) Hop.out (fun _ _ _ _ _ => trivial) (callFunc_in Tryz.func45 (by kernel_rfl) (by kernel_rfl))).mono ?_
  intro e w1 hp
  obtain ⟨rfl, hp'⟩ := hp.e
  have Hp := Lib.hid hp'; clear hp hp'
  go_wp2
  go_ret
  exact ⟨rfl, Hp.out⟩

set_option maxRecDepth 100000 in
set_option maxHeartbeats 1000000 in
theorem tEnd_any (h : VH) (V : AV) (number epoch : Int) (l : ByteArray) (w : World) (hv : ViewAt w h V) (hr : Ready V number epoch) :
    Calls Tryz.prog 29 #[.pointer (some ⟨h.b, 0, none⟩), .int .i64 number, .int .i64 epoch, .string l] w (EPost h w (tChange (opEnd l) V number epoch)) := by
  have hmf : ∀ (fn : Fn) (first cap : Array Value) (w : World), (Instr.makeFunc fn first cap).run Tryz.prog w = .ok (.func fn first cap) w := fun _ _ _ _ => rfl
  have Hv := Lib.hid hv; clear hv
  have Hr := Lib.hid hr; clear hr
  have hop : OpSpec 64 (.string l) (opEnd l) (fun _ => False) w (fun _ _ => True) := fun W X t a n c ht hX hs _ _ _ =>
    (end_any l X t.epoch t.session t.screen t.typed (.slice a n c) _ (.inl rfl) W hX).mono (fun r w' hp => ⟨hp, fun _ => trivial⟩)
  have Hop := Lib.hid hop; clear hop
  go_enter Tryz.func29, Tryz.ntmps29
  go_wp2_with fail
  refine (change_any h V number epoch _ _ (opEnd l) (fun _ => False) (fun _ _ => True) _ Hv.out Hr.out.size Hr.out.len Hr.out.small (small_end Hr.out.small) (fun _ hk => hk.elim) Hop.out (fun _ _ _ _ _ => trivial) (callFunc_in Tryz.func64 (by kernel_rfl) (by kernel_rfl))).mono ?_
  intro e w1 hp
  obtain ⟨rfl, hp'⟩ := hp.e
  have Hp := Lib.hid hp'; clear hp hp'
  go_wp2
  go_ret
  exact ⟨rfl, Hp.out⟩

theorem own_at {a : Option Addr} {n c : Nat} {W : World} {ls : List ByteArray} (hs : SRow W (.slice a n c) ls) {X : Nat} (ho : ∀ g, (Value.slice a n c).ownBlock = some g → g ≠ X) : ∀ g off, a = some ⟨g, off, none⟩ → g ≠ X := fun g off ha => by
  rcases hs.2 with ⟨hv, _⟩ | ⟨g', cap, cur, hv, _⟩
  · rw [ha] at hv; cases hv
  · rw [ha] at hv
    cases hv
    exact ho g (by rw [ha]; rfl)

set_option maxRecDepth 100000 in
set_option maxHeartbeats 1000000 in
theorem tType_any (h : VH) (V : AV) (number epoch : Int) (l : ByteArray) (w : World) (hv : ViewAt w h V) (hr : Ready V number epoch) (hl : l.size ≤ 9223372036854775807) :
    Calls Tryz.prog 20 #[.pointer (some ⟨h.b, 0, none⟩), .int .i64 number, .int .i64 epoch, .string l] w (EPost h w (tChange (opAdd l) V number epoch)) := by
  have hmf : ∀ (fn : Fn) (first cap : Array Value) (w : World), (Instr.makeFunc fn first cap).run Tryz.prog w = .ok (.func fn first cap) w := fun _ _ _ _ => rfl
  have Hv := Lib.hid hv; clear hv
  have Hr := Lib.hid hr; clear hr
  have hop : OpSpec 46 (.string l) (opAdd l) (fun _ => False) w (fun _ _ => True) := fun W X t a n c ht hX hs ho _ _ =>
    (typedAdd_any l X t.epoch t.session t.screen t.typed a n c _ (.inl rfl) W hs (fun g hg => (ho g hg).1) (fun g hg => .inr (.inl hg)) hl ht.screen hX).mono (fun r w' hp => ⟨hp, fun _ => trivial⟩)
  have Hop := Lib.hid hop; clear hop
  go_enter Tryz.func20, Tryz.ntmps20
  go_wp2_with fail
  refine (change_any h V number epoch _ _ (opAdd l) (fun _ => False) (fun _ _ => True) _ Hv.out Hr.out.size Hr.out.len Hr.out.small (small_add Hr.out.small) (fun _ hk => hk.elim) Hop.out (fun _ _ _ _ _ => trivial) (callFunc_in Tryz.func46 (by kernel_rfl) (by kernel_rfl))).mono ?_
  intro e w1 hp
  obtain ⟨rfl, hp'⟩ := hp.e
  have Hp := Lib.hid hp'; clear hp hp'
  go_wp2
  go_ret
  exact ⟨rfl, Hp.out⟩

/-- What Show makes of a view. -/
def tShow (s : ByteArray) (V : AV) (number epoch : Int) : AV × Nat := if s.size = 0 then (tSeen V number epoch, (tGet V number epoch).2) else tChange (opShow s) V number epoch

set_option maxRecDepth 100000 in
set_option maxHeartbeats 1000000 in
theorem tShow_any (h : VH) (V : AV) (number epoch : Int) (l : ByteArray) (w : World) (hv : ViewAt w h V) (hr : Ready V number epoch) (hl : l.size ≤ 35184372088832) :
    Calls Tryz.prog 13 #[.pointer (some ⟨h.b, 0, none⟩), .int .i64 number, .int .i64 epoch, .string l] w (EPost h w (tShow l V number epoch)) := by
  have hmf : ∀ (fn : Fn) (first cap : Array Value) (w : World), (Instr.makeFunc fn first cap).run Tryz.prog w = .ok (.func fn first cap) w := fun _ _ _ _ => rfl
  have Hv := Lib.hid hv; clear hv
  have Hr := Lib.hid hr; clear hr
  by_cases h0 : l.size = 0
  · have he : Hid (tShow l V number epoch = (tSeen V number epoch, (tGet V number epoch).2)) := by show _ = _; simp [tShow, h0]
    have h0' := empty_of h0
    go_enter Tryz.func13, Tryz.ntmps13
    go_wp2_with fail
    refine (tGet_any h V number epoch _ Hv.out Hr.out.size).mono ?_
    rintro e w1 ⟨a, n, c, h1, rfl, hrow, hlie, hp⟩
    clear hrow hlie
    have Hp := Lib.hid hp; clear hp
    generalize hq : (tGet V number epoch).2 = q at *
    have Hq := Lib.hid hq; clear hq
    go_wp2
    go_ret
    rw [he.out]
    exact ⟨rfl, (Hp.out.later ((Below.refl _ _).alloc (Nat.le_refl _) _)).post⟩
  · have he : Hid (tShow l V number epoch = tChange (opShow l) V number epoch) := by show _ = _; simp [tShow, h0]
    have h0' := nonempty_of h0
    have hop : OpSpec 36 (.string l) (opShow l) (fun _ => False) w (fun _ _ => True) := fun W X t a n c ht hX hs ho _ _ =>
      (shownAdd_any l X t.epoch t.session t.screen t.typed a n c _ (.inl rfl) W hs.sl (own_at hs (fun g hg => (ho g hg).1)) (by have := ht.screen; omega) hX).mono (fun r w' hp => ⟨hp, fun _ => trivial⟩)
    have Hop := Lib.hid hop; clear hop
    go_enter Tryz.func13, Tryz.ntmps13
    go_wp2_with fail
    refine (change_any h V number epoch _ _ (opShow l) (fun _ => False) (fun _ _ => True) _ Hv.out Hr.out.size Hr.out.len Hr.out.small (small_show Hr.out.small) (fun _ hk => hk.elim) Hop.out (fun _ _ _ _ _ => trivial) (callFunc_in Tryz.func36 (by kernel_rfl) (by kernel_rfl))).mono ?_
    intro e w1 hp
    obtain ⟨rfl, hp'⟩ := hp.e
    have Hp := Lib.hid hp'; clear hp hp'
    go_wp2
    go_ret
    rw [he.out]
    exact ⟨rfl, Hp.out⟩

/-- What ReadLine answers. -/
def tRead (who : ByteArray) (V : AV) (number epoch : Int) : AV × ByteArray × Nat :=
  ((tChange (opTake who) V number epoch).1, if (tChange (opTake who) V number epoch).2 = 0 then (tGet V number epoch).1.typed.getD 0 ⟨#[]⟩ else ⟨#[]⟩, (tChange (opTake who) V number epoch).2)
def RPost (h : VH) (w : World) (p : AV × ByteArray × Nat) (r : Ending) (w' : World) : Prop := r = .returned (.tuple #[.string p.2.1, .int .i64 p.2.2]) ∧ VPost h w p.1 w'

theorem read_vp {h h' : VH} {w w1 : World} {V : AV} {o : Obj} (_hv : ViewAt w h V) {V' : AV} (p : VX h (fun k => k = w.heap.size) (w.alloc o) V' w1 h') : VPost h w V' w1 := by
  obtain ⟨a1, a2, a3, a4, a5, a6, a7, a8⟩ := p
  refine ⟨h', a1, a2, a3, a4, a5, a6, (Kept.of_below ((Below.refl _ _).alloc (Nat.le_refl _) _) h.fp).trans a7 (fun i hi hs => ?_), fun k hk => ?_⟩
  · rcases hs with h | h
    · exact h
    · omega
  · rcases a8 k hk with h | h
    · exact .inl h
    · exact .inr (by simp at h; omega)

set_option maxRecDepth 100000 in
set_option maxHeartbeats 1000000 in
theorem tRead_any (h : VH) (V : AV) (number epoch : Int) (l : ByteArray) (w : World) (hv : ViewAt w h V) (hr : Ready V number epoch) (hl : l.size ≤ 35184372088832) :
    Calls Tryz.prog 23 #[.pointer (some ⟨h.b, 0, none⟩), .int .i64 number, .int .i64 epoch, .string l] w (RPost h w (tRead l V number epoch)) := by
  have hmf : ∀ (fn : Fn) (first cap : Array Value) (w : World), (Instr.makeFunc fn first cap).run Tryz.prog w = .ok (.func fn first cap) w := fun _ _ _ _ => rfl
  have hb0 : Below w.heap.size w (w.alloc (.cells #[.string l, .string ⟨#[]⟩] 115)) := (Below.refl _ _).alloc (Nat.le_refl _) _
  have hrb : (w.alloc (.cells #[.string l, .string ⟨#[]⟩] 115)).heap[w.heap.size]? = some (.cells #[.string l, .string ⟨#[]⟩] 115 (0, 0)) := heap_alloc_new w _
  have hf : ¬ h.fp w.heap.size := fun e => absurd (hv.fp_lt e) (Nat.lt_irrefl _)
  have Hv := Lib.hid hv; clear hv
  have Hr := Lib.hid hr; clear hr
  have Hf := Lib.hid hf; clear hf
  have Hb0 := Lib.hid hb0; clear hb0
  have Hva : Hid (ViewAt (w.alloc (.cells #[.string l, .string ⟨#[]⟩] 115)) h V) := Hv.out.later Hb0.out
  have hop : OpSpec 55 (.pointer (some ⟨w.heap.size, 0, none⟩)) (opTake l) (fun k => k = w.heap.size) (w.alloc (.cells #[.string l, .string ⟨#[]⟩] 115)) (fun t W => W.heap[w.heap.size]? = some (.cells #[.string l, .string (t.typed.getD 0 ⟨#[]⟩)] 115 (0, 0))) := fun W X t a n c ht hX hs ho hnX hW =>
    (take_any l ⟨#[]⟩ w.heap.size X t.epoch t.session t.screen t.typed a n c _ (.inl rfl) (.inr (.inr rfl)) W hs (fun g hg => ⟨(ho g hg).1, (ho g hg).2⟩) (fun e => hnX e.symm) hl (Nat.le_trans ht.session (by decide)) (by have h1 := ht.typed; have h2 := hs.sl.1; omega) hX ((hW _ rfl).trans hrb)).mono (fun r w' hp => hp)
  have Hop := Lib.hid hop; clear hop hrb
  have Hrd : Hid (tRead l V number epoch = ((tChange (opTake l) V number epoch).1, if (tChange (opTake l) V number epoch).2 = 0 then (tGet V number epoch).1.typed.getD 0 ⟨#[]⟩ else ⟨#[]⟩, (tChange (opTake l) V number epoch).2)) := rfl
  have Hex : Hid (∀ k, k = w.heap.size → h.bs ≤ k ∧ k < (w.alloc (.cells #[.string l, .string ⟨#[]⟩] 115)).heap.size ∧ ¬ h.fp k) := fun k hk => by
    subst hk
    exact ⟨Hv.out.top, by simp, Hf.out⟩
  go_enter Tryz.func23, Tryz.ntmps23
  go_wp2_with fail
  refine (change_any h V number epoch _ _ (opTake l) (fun k => k = w.heap.size) (fun t W => W.heap[w.heap.size]? = some (.cells #[.string l, .string (t.typed.getD 0 ⟨#[]⟩)] 115 (0, 0))) _ Hva.out Hr.out.size Hr.out.len Hr.out.small (small_take Hr.out.small) Hex.out Hop.out (fun t W W' h1 h2 => (h2 _ rfl).trans h1) (callFunc_in Tryz.func55 (by kernel_rfl) (by kernel_rfl))).mono ?_
  rintro e w1 ⟨h', rfl, hx, hq⟩
  have Hp : Hid (VPost h w (tChange (opTake l) V number epoch).1 w1) := read_vp Hv.out hx
  have HQ := Lib.hid hq; clear hq hx
  clear Hop Hex Hva
  generalize htc : tChange (opTake l) V number epoch = tc at *
  obtain ⟨V', q⟩ := tc
  dsimp only at *
  by_cases h0 : q = 0
  · subst h0
    have hh := HQ.out rfl
    have c1 : w1.cell? ⟨w.heap.size, 1, none⟩ = some (.string ((tGet V number epoch).1.typed.getD 0 ⟨#[]⟩)) := cell_of_heap hh 1
    clear hh
    generalize (tGet V number epoch).1.typed.getD 0 ⟨#[]⟩ = l0 at *
    go_wp2
    go_ret2
    rw [Hrd.out]
    exact ⟨rfl, Hp.out⟩
  · have h0' : ((q : Int) != 0) = true := bne_iff_ne.2 (by omega)
    have H0 := Lib.hid h0; clear h0
    go_wp2
    go_ret2
    rw [Hrd.out]
    exact ⟨by simp [H0.out], Hp.out⟩

end Go.Proofs.YtfobmfenjdiimaaGreatDoor
