/- terminal: take. terminal: change. -/
import Derived.Test.YtfobmfenjdiimaaGreatDoorTermF
import Derived.BigQuiet
namespace Go.Proofs.YtfobmfenjdiimaaGreatDoor
open Go.RowKit
attribute [local go_sem ↓] Go.wp_at_zero Go.wp_at_succ

def opTake (who : ByteArray) (t : TermT) : TermT × Nat := if t.session.size = 0 ∨ withinB who t.session = false then (t, 10) else if t.typed.length = 0 then (t, 19) else (⟨t.epoch, t.session, t.typed.drop 1, t.screen⟩, 0)

theorem within_is (n a : ByteArray) (v : Bool) (hn : n.size ≤ 35184372088832) (ha : a.size ≤ 35184372088832) (h : withinB n a = v) (w : World) :
    Calls Tryz.prog 92 #[.string n, .string a] w fun r w' => r = .returned (.bool v) ∧ Below w.heap.size w w' := by
  subst h; exact within_any n a w hn ha

/-- What take leaves. -/
def TakePost (X rb : Nat) (S : Nat → Prop) (w : World) (who : ByteArray) (t : TermT) (r : Ending) (w' : World) : Prop :=
  OpPost X S w (opTake who t) r w' ∧ ((opTake who t).2 = 0 → w'.heap[rb]? = some (.cells #[.string who, .string (t.typed.getD 0 ⟨#[]⟩)] 115 (0, 0)))

theorem take_post {who line0 l0 : ByteArray} {rb X : Nat} {ep : Int} {se sc : ByteArray} {ls : List ByteArray} {v0 : Value} {S : Nat → Prop} {w w1 : World} {g off n' c' : Nat} (hSX : S X) (hSr : S rb) (hrX : rb ≠ X) (hgX : g ≠ X) (hgr : g ≠ rb) (hb : Below w.heap.size w w1)
    (hX : w1.heap[X]? = some (.cells #[.int .i64 ep, .string se, v0, .string sc] 38 (0, 0))) (hr : w1.heap[rb]? = some (.cells #[.string who, .string line0] 115 (0, 0)))
    (hs : SSl w1 (some ⟨g, off, none⟩) n' (ls.drop 1)) (hl0 : ls.getD 0 ⟨#[]⟩ = l0) (he : opTake who ⟨ep, se, ls, sc⟩ = (⟨ep, se, ls.drop 1, sc⟩, 0)) :
    TakePost X rb S w who ⟨ep, se, ls, sc⟩ (.returned (.int .i64 0)) (((w1.setCell ⟨rb, 1, none⟩ (.string l0)).setCell ⟨X, 2, none⟩ (.slice (some ⟨g, off, none⟩) n' c')).drew) := by
  unfold TakePost
  rw [he]
  have k1 := Kept.of_grown (grown_setCell w1 rb 1 (.string l0)) S (fun k hk => by cases hk; exact hSr)
  have k2 := Kept.of_grown (grown_setCell (w1.setCell ⟨rb, 1, none⟩ (.string l0)) X 2 (.slice (some ⟨g, off, none⟩) n' c')) S (fun k hk => by cases hk; exact hSX)
  have k3 := ((Kept.of_below hb S).trans k1 (fun _ _ h => h)).trans k2 (fun _ _ h => h)
  refine ⟨⟨rfl, ⟨k3.os, k3.tape, k3.output, k3.size, k3.block⟩, fun _ => ⟨some ⟨g, off, none⟩, n', c', ?_, ?_⟩⟩, fun _ => ?_⟩
  · exact heap_setCell_same ((Below.heap_setCell _ _ _ _ (Ne.symm hrX)).trans hX) 2 _
  · have h1 : SSl (w1.setCell ⟨rb, 1, none⟩ (.string l0)) (some ⟨g, off, none⟩) n' (ls.drop 1) := hs.grown (grown_setCell w1 rb 1 (.string l0)) (fun g' o' ha e => by cases ha; cases e; exact hgr rfl)
    have h2 : SSl ((w1.setCell ⟨rb, 1, none⟩ (.string l0)).setCell ⟨X, 2, none⟩ (.slice (some ⟨g, off, none⟩) n' c')) (some ⟨g, off, none⟩) n' (ls.drop 1) := h1.grown (grown_setCell _ X 2 _) (fun g' o' ha e => by cases ha; cases e; exact hgX rfl)
    exact ⟨h2.1, h2.2⟩
  · show ((w1.setCell ⟨rb, 1, none⟩ (.string l0)).setCell ⟨X, 2, none⟩ (.slice (some ⟨g, off, none⟩) n' c')).heap[rb]? = _
    rw [hl0]
    exact (Below.heap_setCell _ _ _ _ hrX).trans (heap_setCell_same hr 1 _)
theorem SSl.tail {w : World} {g off n : Nat} {ls : List ByteArray} (hn : ls.length = n) (hc : ∀ j, j < n → w.cell? ⟨g, off + j, none⟩ = some (.string (ls.getD j ⟨#[]⟩))) : SSl w (some ⟨g, off + 1, none⟩) (n - 1) (ls.drop 1) := by
  refine ⟨by simp; omega, fun h0 => ⟨g, off + 1, rfl, fun j hj => ?_⟩⟩
  have := hc (1 + j) (by omega)
  rw [Nat.add_assoc, this]
  simp [Nat.add_comm]

set_option maxRecDepth 100000 in
set_option maxHeartbeats 2000000 in
theorem take_any (who line0 : ByteArray) (rb X : Nat) (ep : Int) (se sc : ByteArray) (ls : List ByteArray) (a : Option Addr) (n c : Nat) (S : Nat → Prop) (hSX : S X) (hSr : S rb) (w : World) (hs : SRow w (.slice a n c) ls) (hne : ∀ g, (Value.slice a n c).ownBlock = some g → g ≠ X ∧ g ≠ rb) (hrX : rb ≠ X) (hw : who.size ≤ 35184372088832) (hse : se.size ≤ 35184372088832) (hn16 : n ≤ 1000000)
    (hX : w.heap[X]? = some (.cells #[.int .i64 ep, .string se, .slice a n c, .string sc] 38 (0, 0)))
    (hr : w.heap[rb]? = some (.cells #[.string who, .string line0] 115 (0, 0))) :
    Calls Tryz.prog 55 #[.pointer (some ⟨rb, 0, none⟩), .pointer (some ⟨X, 0, none⟩)] w (TakePost X rb S w who ⟨ep, se, ls, sc⟩) := by
  have c1 : w.cell? ⟨X, 1, none⟩ = some (.string se) := cell_of_heap hX 1
  have r0 : w.cell? ⟨rb, 0, none⟩ = some (.string who) := cell_of_heap hr 0
  have hlt := lt_of_heap hX
  have hltr := lt_of_heap hr
  have hn := hs.sl.1
  have HX := Lib.hid hX; clear hX
  have Hr := Lib.hid hr; clear hr
  have Hs := Lib.hid hs; clear hs
  have Hn := Lib.hid hn; clear hn
  have Hne := Lib.hid hne; clear hne
  by_cases h1 : se.size = 0
  · have he : Hid (opTake who ⟨ep, se, ls, sc⟩ = (⟨ep, se, ls, sc⟩, 10)) := by show _ = _; simp [opTake, h1]
    have h1' := empty_of h1
    go_enter Tryz.func55, Tryz.ntmps55
    go_wp2
    go_quiet (fail)
    go_wp2
    go_ret
    unfold TakePost
    rw [he.out]
    exact ⟨op_fail (by decide) (below_drewN (Below.refl _ _) _), fun h => by cases h⟩
  · have h1' := nonempty_of h1
    cases h2 : withinB who se with
    | false =>
      have he : Hid (opTake who ⟨ep, se, ls, sc⟩ = (⟨ep, se, ls, sc⟩, 10)) := by show _ = _; simp [opTake, h2]
      go_enter Tryz.func55, Tryz.ntmps55
      go_wp2
      go_region_held3 (fun w' => w'.cell? ⟨X, 1, none⟩ = some (.string se) ∧ w'.cell? ⟨rb, 0, none⟩ = some (.string who)) (first | go_keep | exact ⟨c1, r0⟩ | (go_split_ands; refine ⟨?_, ?_⟩ <;> (rw [(bcell hb1).1 _ _ (by simp <;> omega)]; go_keep)))
        (first | (go_at_call 92; refine (within_is who se _ hw hse h2 _).mono ?_; rintro e w1 ⟨rfl, hb1⟩))
      go_wp2
      go_ret
      unfold TakePost
      rw [he.out]
      exact ⟨op_fail (by decide) ((Below.drew (Below.refl _ _)).trans hb1), fun h => by cases h⟩
    | true =>
      go_enter Tryz.func55, Tryz.ntmps55
      go_wp2
      go_region_held3 (fun w' => w'.cell? ⟨X, 1, none⟩ = some (.string se) ∧ w'.cell? ⟨rb, 0, none⟩ = some (.string who)) (first | go_keep | exact ⟨c1, r0⟩ | (go_split_ands; refine ⟨?_, ?_⟩ <;> (rw [(bcell hb1).1 _ _ (by simp <;> omega)]; go_keep)))
        (first | (go_at_call 92; refine (within_is who se _ hw hse h2 _).mono ?_; rintro e w1 ⟨rfl, hb1⟩))
      have HB1 : Hid (Below w.heap.size w w1) := (Below.drew (Below.refl _ _)).trans hb1
      clear hb1
      have hX1 := (HB1.out.block X hlt).trans HX.out
      have hr1 := (HB1.out.block rb hltr).trans Hr.out
      clear c1 r0
      have c2 : w1.cell? ⟨X, 2, none⟩ = some (.slice a n c) := cell_of_heap hX1 2
      have g2 : w1.frozen? ⟨X, 2, none⟩ = false := frozen_of_heap hX1 2
      have d1 : w1.cell? ⟨rb, 1, none⟩ = some (.string line0) := cell_of_heap hr1 1
      have g1 : w1.frozen? ⟨rb, 1, none⟩ = false := frozen_of_heap hr1 1
      have HX1 := Lib.hid hX1; clear hX1
      have Hr1 := Lib.hid hr1; clear hr1
      by_cases h3 : n = 0
      · have he : Hid (opTake who ⟨ep, se, ls, sc⟩ = (⟨ep, se, ls, sc⟩, 19)) := by show _ = _; simp [opTake, h1, h2, Hn.out, h3]
        subst h3
        go_wp2
        go_ret
        unfold TakePost
        rw [he.out]
        exact ⟨op_fail (by decide) HB1.out, fun h => by cases h⟩
      · have he : Hid (opTake who ⟨ep, se, ls, sc⟩ = (⟨ep, se, ls.drop 1, sc⟩, 0)) := by show _ = _; simp [opTake, h1, h2, Hn.out, h3]
        obtain ⟨g, off, rfl, hcell⟩ := (Hs.out.sl.later HB1.out).2 (by omega)
        have hnc : n ≤ c := by
          rcases Hs.out.2 with ⟨hv, _⟩ | ⟨g', cap, cur, hv, _, _, h5, _⟩
          · cases hv
          · cases hv; omega
        have hg := Hne.out g rfl
        have e0 : w1.cell? ⟨g, off, none⟩ = some (.string (ls.getD 0 ⟨#[]⟩)) := hcell 0 (by omega)
        have Hcell : Hid (∀ j, j < n → w1.cell? ⟨g, off + j, none⟩ = some (.string (ls.getD j ⟨#[]⟩))) := hcell
        clear hcell
        have h3' : ((n : Int) == 0) = false := beq_eq_false_iff_ne.2 (by omega)
        have hn1 : 1 ≤ n := by omega
        have hn0 : 0 < n := by omega
        generalize hl0 : ls.getD 0 ⟨#[]⟩ = l0 at *
        have Hl0 := Lib.hid hl0; clear hl0
        clear h3
        have hgX := hg.1
        have hgr := hg.2
        have hXg := Ne.symm hgX
        have hrg := Ne.symm hgr
        have hXr := Ne.symm hrX
        clear hg
        by_cases hc1 : c = 1
        · subst hc1
          obtain rfl : n = 1 := by omega
          go_wp2
          go_region
          go_wp2
          go_ret
          exact take_post hSX hSr hrX hgX hgr HB1.out HX1.out Hr1.out ⟨by simp [Hn.out], fun h => absurd h (Nat.lt_irrefl _)⟩ Hl0.out he.out
        · go_wp2
          go_region
          go_wp2
          go_ret
          exact take_post hSX hSr hrX hgX hgr HB1.out HX1.out Hr1.out (SSl.tail Hn.out Hcell.out) Hl0.out he.out

end Go.Proofs.YtfobmfenjdiimaaGreatDoor

namespace Go.Proofs.YtfobmfenjdiimaaGreatDoor
open Go.RowKit
attribute [local go_sem ↓] Go.wp_at_zero Go.wp_at_succ

/-- A terminal that the program can hold. -/
structure Small (t : TermT) : Prop where
  session : t.session.size ≤ 1000
  screen : t.screen.size ≤ 65536
  typed : t.typed.length ≤ 1000
  lines : ∀ s ∈ t.typed, s.size ≤ 65536
/-- One that Encode may be handed. -/
structure Small2 (t : TermT) : Prop where
  session : t.session.size ≤ 1000
  screen : t.screen.size ≤ 70368744177664
  typed : t.typed.length ≤ 1000000
  lines : ∀ s ∈ t.typed, s.size ≤ 70368744177664

/-- What change makes of a view. -/
def tChange (op : TermT → TermT × Nat) (V : AV) (number epoch : Int) : AV × Nat :=
  if (tGet V number epoch).2 ≠ 0 then (tSeen V number epoch, (tGet V number epoch).2)
  else if (op (tGet V number epoch).1).2 ≠ 0 then (tSeen V number epoch, (op (tGet V number epoch).1).2)
  else if (encT (op (tGet V number epoch).1).1).2 ≠ 0 then (tSeen V number epoch, (encT (op (tGet V number epoch).1).1).2)
  else (⟨(tSeen V number epoch).base, (tSeen V number epoch).reads, (tSeen V number epoch).calls ++ [⟨ofTerm number, (encT (op (tGet V number epoch).1).1).1, false⟩]⟩, 0)

/-- VP with blocks ex that may be written too. -/
def VX (h : VH) (ex : Nat → Prop) (w : World) (V : AV) (w' : World) (h' : VH) : Prop := ViewAt w' h' V ∧ h'.b = h.b ∧ h'.rm = h.rm ∧ h'.lm = h.lm ∧ h'.bs = h.bs ∧ h'.sp = h.sp ∧ Kept (fun k => h.fp k ∨ ex k) w w' ∧ ∀ k, h'.fp k → h.fp k ∨ w.heap.size ≤ k
def ChPost (h : VH) (ex : Nat → Prop) (w : World) (p : AV × Nat) (Q : World → Prop) (r : Ending) (w' : World) : Prop :=
  ∃ h', r = .returned (.int .i64 p.2) ∧ VX h ex w p.1 w' h' ∧ (p.2 = 0 → Q w')

theorem VP.vx {h : VH} {ex : Nat → Prop} {w : World} {V : AV} {w1 w2 : World} {h' : VH} {S : Nat → Prop} (p : VP h w V w1 h') (hk : Kept S w1 w2) (hS : ∀ k, k < w1.heap.size → S k → (w.heap.size ≤ k ∨ ex k) ∧ ¬ h'.fp k ∧ h.bs ≤ k) : VX h ex w V w2 h' := by
  obtain ⟨h1, h2, h3, h4, h5, h6, h7, h8⟩ := p
  have htop : h'.bs ≤ w1.heap.size := h1.top
  refine ⟨h1.kept ?_ (fun k hf => hk.block k (h1.fp_lt hf) (fun hs => (hS k (h1.fp_lt hf) hs).2.1 hf)), h2, h3, h4, h5, h6, (h7.mono (fun _ _ h => .inl h)).trans hk (fun i hi hs => ?_), h8⟩
  · refine ⟨hk.os, hk.tape, hk.output, hk.size, fun k hkk => hk.block k (Nat.lt_of_lt_of_le hkk htop) (fun hs => ?_)⟩
    have := (hS k (Nat.lt_of_lt_of_le hkk htop) hs).2.2
    rw [h5] at hkk
    omega
  · rcases (hS i (Nat.lt_of_lt_of_le hi h7.size) hs).1 with h | h
    · omega
    · exact .inr h
theorem VX.later {h : VH} {ex : Nat → Prop} {w : World} {V : AV} {w1 w2 : World} {h' : VH} (p : VX h ex w V w1 h') (hb : Below w1.heap.size w1 w2) : VX h ex w V w2 h' := by
  obtain ⟨h1, h2, h3, h4, h5, h6, h7, h8⟩ := p
  exact ⟨h1.later hb, h2, h3, h4, h5, h6, h7.trans (Kept.of_below hb _) (fun _ _ hs => hs), h8⟩
theorem VX.trans {h h1 h2 : VH} {ex : Nat → Prop} {w w1 w2 : World} {V1 V2 : AV} (p : VX h ex w V1 w1 h1) (q : VP h1 w1 V2 w2 h2) : VX h ex w V2 w2 h2 := by
  obtain ⟨a1, a2, a3, a4, a5, a6, a7, a8⟩ := p
  obtain ⟨b1, b2, b3, b4, b5, b6, b7, b8⟩ := q
  refine ⟨b1, b2.trans a2, b3.trans a3, b4.trans a4, b5.trans a5, b6.trans a6, a7.trans b7 (fun i hi hs => ?_), fun k hk => ?_⟩
  · rcases a8 i hs with h | h
    · exact .inl h
    · omega
  · rcases b8 k hk with h | h
    · exact a8 k h
    · exact .inr (Nat.le_trans a7.size h)

theorem encB_length {t : TermT} (h : checkT t = 0) (hs : t.session.size ≤ 1000) : (encB t).length ≤ 65536 := by
  obtain ⟨_, _, h3, h4, _, h6⟩ := checkT_ok h
  have a1 := natBytes_length t.epoch.toNat
  have a2 := textB_length t.session
  have a3 := natBytes_length t.typed.length
  have a4 := linesB_length (ls := t.typed) (fun s hm => lineE_size (linesE_size h4 s hm))
  have a5 := textB_length t.screen
  simp only [encB, headB, List.length_append]
  omega
theorem encT_size {t : TermT} (hs : t.session.size ≤ 1000) : (encT t).1.size ≤ 65536 := by
  unfold encT
  split
  · rename_i h
    have := encB_length h hs
    rw [← size_toList]
    exact this
  · exact Nat.zero_le _
theorem tSeen_calls (V : AV) (number epoch : Int) : (tSeen V number epoch).calls = V.calls := by
  unfold tSeen avSeen
  split
  · rfl
  · split <;> rfl
theorem tGet_range {V : AV} {number epoch : Int} (h : (tGet V number epoch).2 = 0) : 1 ≤ number ∧ number ≤ 99 := by
  unfold tGet at h
  split at h
  · cases h
  · rename_i h1
    simp only [inRange, Bool.not_eq_false, Bool.and_eq_true, decide_eq_true_eq] at h1
    exact h1.1

/-- What the operation does, as change hands it the terminal. -/
def OpSpec (f : Nat) (recv : Value) (op : TermT → TermT × Nat) (ex : Nat → Prop) (w : World) (Q : TermT → World → Prop) : Prop :=
  ∀ (W : World) (X : Nat) (t : TermT) (a : Option Addr) (n c : Nat), Small t → W.heap[X]? = some (.cells #[.int .i64 t.epoch, .string t.session, .slice a n c, .string t.screen] 38 (0, 0)) → SRow W (.slice a n c) t.typed →
    (∀ g, (Value.slice a n c).ownBlock = some g → g ≠ X ∧ ¬ ex g) → ¬ ex X → (∀ k, ex k → W.heap[k]? = w.heap[k]?) →
    Calls Tryz.prog f #[recv, .pointer (some ⟨X, 0, none⟩)] W fun r W' => OpPost X (fun k => k = X ∨ (Value.slice a n c).ownBlock = some k ∨ ex k) W (op t) r W' ∧ ((op t).2 = 0 → Q t W')

set_option maxRecDepth 100000 in
set_option maxHeartbeats 4000000 in
theorem change_any (h : VH) (V : AV) (number epoch : Int) (f : Nat) (recv : Value) (op : TermT → TermT × Nat) (ex : Nat → Prop) (Q : TermT → World → Prop) (w : World) (hv : ViewAt w h V) (hsz : (avGet V (ofTerm number)).1.size ≤ 35184372088832) (hlen : V.calls.length < 1000000)
    (hsm : Small (tGet V number epoch).1) (hsm2 : Small2 (op (tGet V number epoch).1).1) (hex : ∀ k, ex k → h.bs ≤ k ∧ k < w.heap.size ∧ ¬ h.fp k) (hop : OpSpec f recv op ex w Q)
    (hQ : ∀ t W W', Q t W → (∀ k, ex k → W'.heap[k]? = W.heap[k]?) → Q t W')
    (hcf : ∀ args W, (callFunc f args).run Tryz.prog W = .ok (.enter f args) W) :
    Calls Tryz.prog 35 #[.pointer (some ⟨h.b, 0, none⟩), .int .i64 number, .int .i64 epoch, .func (.func f) #[recv] #[]] w (ChPost h ex w (tChange op V number epoch) (Q (tGet V number epoch).1)) := by
  have Hv := Lib.hid hv; clear hv
  have Hsz := Lib.hid hsz; clear hsz
  have Hlen := Lib.hid hlen; clear hlen
  have Hsm := Lib.hid hsm; clear hsm
  have Hsm2 := Lib.hid hsm2; clear hsm2
  have Hex := Lib.hid hex; clear hex
  have Hop := Lib.hid hop; clear hop
  have HQ := Lib.hid hQ; clear hQ
  have Htc : Hid (tChange op V number epoch = tChange op V number epoch) := rfl
  have Hrange := Lib.hid (tGet_range (V := V) (number := number) (epoch := epoch))
  go_enter Tryz.func35, Tryz.ntmps35
  go_wp2_with fail
  refine (tGet_any h V number epoch _ Hv.out Hsz.out).mono ?_
  rintro e w1 ⟨a, n, c, h1, rfl, hrow, hlie, hp⟩
  have Hrow := Lib.hid hrow; clear hrow
  have Hlie := Lib.hid hlie; clear hlie
  have Hp := Lib.hid hp; clear hp
  generalize ht : tGet V number epoch = t at *
  have Ht := Lib.hid ht; clear ht
  obtain ⟨⟨ep, se, ls, sc⟩, q⟩ := t
  dsimp only at *
  by_cases hq : q = 0
  · subst hq
    have hX : (w1.alloc (.cells #[.int .i64 ep, .string se, .slice a n c, .string sc] 38)).heap[w1.heap.size]? = some (.cells #[.int .i64 ep, .string se, .slice a n c, .string sc] 38 (0, 0)) := heap_alloc_new w1 _
    have hpk := Hp.out.2.2.2.2.2.2.1
    have hp8 := Hp.out.2.2.2.2.2.2.2
    have hexW : ∀ k, ex k → (w1.alloc (.cells #[.int .i64 ep, .string se, .slice a n c, .string sc] 38)).heap[k]? = w.heap[k]? := fun k hk =>
      (Below.heap_alloc w1 _ k (Nat.lt_of_lt_of_le (Hex.out k hk).2.1 hpk.size)).trans (hpk.block k (Hex.out k hk).2.1 (Hex.out k hk).2.2)
    have hexX : ¬ ex w1.heap.size := fun hk => by have := (Hex.out _ hk).2.1; have := hpk.size; omega
    have hown : ∀ g, (Value.slice a n c).ownBlock = some g → g ≠ w1.heap.size ∧ ¬ ex g := fun g hg => by
      obtain ⟨cur, hc⟩ := row_lt Hrow.out hg
      have h2 := lt_of_heap hc
      have h3 := (Hlie.out g hg).1
      exact ⟨by omega, fun hk => by have := (Hex.out _ hk).2.1; omega⟩
    have hexF : ∀ k, ex k → ¬ h1.fp k := fun k hk hf => by
      rcases hp8 k hf with h | h
      · exact (Hex.out k hk).2.2 h
      · have := (Hex.out k hk).2.1; omega
    have HexF := Lib.hid hexF; clear hexF
    have Hbs : Hid (h.bs ≤ w.heap.size) := Hv.out.top
    have HSK : Hid (∀ k, k < w1.heap.size → (k = w1.heap.size ∨ (Value.slice a n c).ownBlock = some k ∨ ex k) → (w.heap.size ≤ k ∨ ex k) ∧ ¬ h1.fp k ∧ h.bs ≤ k) := fun k hk hs => by
      have hb := Hbs.out
      rcases hs with h | h | h
      · omega
      · exact ⟨.inl (Hlie.out k h).1, (Hlie.out k h).2, by have := (Hlie.out k h).1; omega⟩
      · exact ⟨.inr h, HexF.out k h, (Hex.out k h).1⟩
    have hcall := Hop.out _ w1.heap.size ⟨ep, se, ls, sc⟩ a n c Hsm.out hX (World.ownsRow.alloc Hrow.out _) hown hexX hexW
    have Hcall := Lib.hid hcall; clear hcall hown hexX hexW hpk hp8 hX
    generalize hop1 : op ⟨ep, se, ls, sc⟩ = o at *
    have Ho := Lib.hid hop1; clear hop1
    obtain ⟨⟨ep', se', ls', sc'⟩, q⟩ := o
    dsimp only at *
    go_wp2_with fail
    refine Hcall.out.mono ?_
    rintro e w3 ⟨⟨rfl, hk3, hx3⟩, hq3⟩
    have HK : Hid (Kept (fun k => k = w1.heap.size ∨ (Value.slice a n c).ownBlock = some k ∨ ex k) w1 w3) := (Kept.of_below ((Below.refl _ _).alloc (Nat.le_refl _) _) _).trans hk3 (fun _ _ h => h)
    have HVX : Hid (VX h ex w (tSeen V number epoch) w3 h1) := Hp.out.vx HK.out HSK.out
    have Hx3 := Lib.hid hx3; clear hx3
    have HQ3 := Lib.hid hq3; clear hq3
    clear hk3 Hcall
    dsimp only at *
    by_cases hq : q = 0
    · subst hq
      obtain ⟨a', n', c', hX3, hs3⟩ := Hx3.out rfl
      have c0 : w3.cell? ⟨w1.heap.size, 0, none⟩ = some (.int .i64 ep') := cell_of_heap hX3 0
      have c1 : w3.cell? ⟨w1.heap.size, 1, none⟩ = some (.string se') := cell_of_heap hX3 1
      have c2 : w3.cell? ⟨w1.heap.size, 2, none⟩ = some (.slice a' n' c') := cell_of_heap hX3 2
      have c3 : w3.cell? ⟨w1.heap.size, 3, none⟩ = some (.string sc') := cell_of_heap hX3 3
      have Hs3 := Lib.hid hs3; clear hs3 hX3 Hx3
      have hn' : n' ≤ 70368744177664 := by have h1 := Hsm2.out.typed; have h2 := Hs3.out.1; dsimp only at h1; omega
      go_wp2_with fail
      refine (encode_any ep' se' sc' a' n' c' ls' _ Hs3.out (Nat.le_trans Hsm2.out.session (by decide)) Hsm2.out.screen hn' Hsm2.out.lines).mono ?_
      rintro e w4 ⟨rfl, hb4⟩
      have HVX4 : Hid (VX h ex w (tSeen V number epoch) w4 h1) := HVX.out.later hb4
      have Hex4 : Hid (∀ k, ex k → w4.heap[k]? = w3.heap[k]?) := fun k hk => hb4.block k (Nat.lt_of_lt_of_le (Nat.lt_of_lt_of_le (Hex.out k hk).2.1 Hp.out.2.2.2.2.2.2.1.size) HK.out.size)
      have Hsz4 : Hid (∀ k, ex k → k < w4.heap.size) := fun k hk => Nat.lt_of_lt_of_le (Nat.lt_of_lt_of_le (Nat.lt_of_lt_of_le (Hex.out k hk).2.1 Hp.out.2.2.2.2.2.2.1.size) HK.out.size) hb4.size
      clear hb4 c0 c1 c2 c3 HVX
      have Henc : Hid ((encT ⟨ep', se', ls', sc'⟩).1.size ≤ 65536) := encT_size Hsm2.out.session
      generalize hen : encT ⟨ep', se', ls', sc'⟩ = en at *
      have Hen := Lib.hid hen; clear hen
      obtain ⟨s, q⟩ := en
      dsimp only at *
      by_cases hq : q = 0
      · subst hq
        have he : Hid (tChange op V number epoch = (⟨(tSeen V number epoch).base, (tSeen V number epoch).reads, (tSeen V number epoch).calls ++ [⟨ofTerm number, s, false⟩]⟩, 0)) := by show _ = _; simp [tChange, Ht.out, Ho.out, Hen.out]
        have Hn : Hid (NameOk (ofTerm number)) := nameOk_term number (by have := (Hrange.out trivial).1; omega) (by have := (Hrange.out trivial).2; omega)
        go_wp2_with fail
        refine (ofTerminal_any number _).mono ?_
        rintro e w5 ⟨rfl, hb5⟩
        have HVX5 : Hid (VX h ex w (tSeen V number epoch) w5 h1) := HVX4.out.later hb5
        have Hex5 : Hid (∀ k, ex k → w5.heap[k]? = w3.heap[k]?) := fun k hk => (hb5.block k (Hsz4.out k hk)).trans (Hex4.out k hk)
        have Hsz5 : Hid (∀ k, ex k → k < w5.heap.size) := fun k hk => Nat.lt_of_lt_of_le (Hsz4.out k hk) hb5.size
        clear hb5
        have hb1 : h.b = h1.b := Hp.out.2.1.symm
        rw [hb1]
        go_wp2_with fail
        refine (vSet_any h1 (tSeen V number epoch) (ofTerm number) s _ HVX5.out.1 Hn.out Henc.out (by rw [tSeen_calls]; exact Hlen.out)).mono ?_
        rintro e w6 ⟨rfl, hp6⟩
        obtain ⟨h2, hp6⟩ := hp6.vp
        have Hp6 := Lib.hid hp6; clear hp6
        go_wp2
        go_ret
        rw [he.out]
        refine ⟨h2, rfl, HVX5.out.trans Hp6.out, fun _ => ?_⟩
        exact HQ.out _ w3 _ (HQ3.out trivial) (fun k hk => (Hp6.out.2.2.2.2.2.2.1.block k (Hsz5.out k hk) (HexF.out k hk)).trans (Hex5.out k hk))
      · have he : Hid (tChange op V number epoch = (tSeen V number epoch, q)) := by show _ = _; simp [tChange, Ht.out, Ho.out, Hen.out, hq]
        have hq' : ((q : Int) != 0) = true := bne_iff_ne.2 (by omega)
        have Hq := Lib.hid hq; clear hq
        go_wp2
        go_ret
        rw [he.out]
        exact ⟨h1, rfl, HVX4.out, fun h => absurd h Hq.out⟩
    · have he : Hid (tChange op V number epoch = (tSeen V number epoch, q)) := by show _ = _; simp [tChange, Ht.out, Ho.out, hq]
      have hq' : ((q : Int) != 0) = true := bne_iff_ne.2 (by omega)
      have Hq := Lib.hid hq; clear hq
      go_wp2
      go_ret
      rw [he.out]
      exact ⟨h1, rfl, HVX.out, fun h => absurd h Hq.out⟩
  · have he : Hid (tChange op V number epoch = (tSeen V number epoch, q)) := by show _ = _; simp [tChange, Ht.out, hq]
    have hq' : ((q : Int) != 0) = true := bne_iff_ne.2 (by omega)
    have Hq := Lib.hid hq; clear hq
    go_wp2
    go_ret
    rw [he.out]
    exact ⟨h1, rfl, Hp.out.vx (S := fun _ => False) (Kept.of_below ((Below.refl _ _).alloc (Nat.le_refl _) _) _) (fun k _ hs => hs.elim), fun h => absurd h Hq.out⟩

end Go.Proofs.YtfobmfenjdiimaaGreatDoor
