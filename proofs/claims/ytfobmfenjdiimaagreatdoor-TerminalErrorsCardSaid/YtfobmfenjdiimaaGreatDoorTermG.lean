/- terminal: take. -/
import Derived.Test.YtfobmfenjdiimaaGreatDoorTermF
import Derived.BigQuiet
namespace Go.Proofs.YtfobmfenjdiimaaGreatDoor
open Go.RowKit
attribute [local go_sem ↓] Go.wp_at_zero Go.wp_at_succ

def opTake (who : ByteArray) (t : TermT) : TermT × Nat := if t.session.size = 0 ∨ withinB who t.session = false then (t, 10) else if t.typed.length = 0 then (t, 19) else (⟨t.epoch, t.session, t.typed.drop 1, t.screen⟩, 0)

theorem within_is (n a : ByteArray) (v : Bool) (hn : n.size ≤ 35184372088832) (ha : a.size ≤ 35184372088832) (h : withinB n a = v) (w : World) :
    Calls Tryz.prog 92 #[.string n, .string a] w fun r w' => r = .returned (.bool v) ∧ Below w.heap.size w w' := by
  subst h; exact within_any n a w hn ha

/-- What take leaves. -/
def TakePost (X rb : Nat) (S : Nat → Prop) (w : World) (who : ByteArray) (t : TermT) (r : Ending) (w' : World) : Prop :=
  OpPost X S w (opTake who t) r w' ∧ ((opTake who t).2 = 0 → w'.heap[rb]? = some (.cells #[.string who, .string (t.typed.getD 0 ⟨#[]⟩)] 115 (0, 0)))

theorem take_post {who line0 l0 : ByteArray} {rb X : Nat} {ep : Int} {se sc : ByteArray} {ls : List ByteArray} {v0 : Value} {S : Nat → Prop} {w w1 : World} {g off n' c' : Nat} (hSX : S X) (hSr : S rb) (hrX : rb ≠ X) (hgX : g ≠ X) (hgr : g ≠ rb) (hb : Below w.heap.size w w1)
    (hX : w1.heap[X]? = some (.cells #[.int .i64 ep, .string se, v0, .string sc] 38 (0, 0))) (hr : w1.heap[rb]? = some (.cells #[.string who, .string line0] 115 (0, 0)))
    (hs : SSl w1 (some ⟨g, off, none⟩) n' (ls.drop 1)) (hl0 : ls.getD 0 ⟨#[]⟩ = l0) (he : opTake who ⟨ep, se, ls, sc⟩ = (⟨ep, se, ls.drop 1, sc⟩, 0)) :
    TakePost X rb S w who ⟨ep, se, ls, sc⟩ (.returned (.int .i64 0)) (((w1.setCell ⟨rb, 1, none⟩ (.string l0)).setCell ⟨X, 2, none⟩ (.slice (some ⟨g, off, none⟩) n' c')).drew) := by
  unfold TakePost
  rw [he]
  have k1 := Kept.of_grown (grown_setCell w1 rb 1 (.string l0)) S (fun k hk => by cases hk; exact hSr)
  have k2 := Kept.of_grown (grown_setCell (w1.setCell ⟨rb, 1, none⟩ (.string l0)) X 2 (.slice (some ⟨g, off, none⟩) n' c')) S (fun k hk => by cases hk; exact hSX)
  have k3 := ((Kept.of_below hb S).trans k1 (fun _ _ h => h)).trans k2 (fun _ _ h => h)
  refine ⟨⟨rfl, ⟨k3.os, k3.tape, k3.output, k3.size, k3.block⟩, fun _ => ⟨some ⟨g, off, none⟩, n', c', ?_, ?_⟩⟩, fun _ => ?_⟩
  · exact heap_setCell_same ((Below.heap_setCell _ _ _ _ (Ne.symm hrX)).trans hX) 2 _
  · have h1 : SSl (w1.setCell ⟨rb, 1, none⟩ (.string l0)) (some ⟨g, off, none⟩) n' (ls.drop 1) := hs.grown (grown_setCell w1 rb 1 (.string l0)) (fun g' o' ha e => by cases ha; cases e; exact hgr rfl)
    have h2 : SSl ((w1.setCell ⟨rb, 1, none⟩ (.string l0)).setCell ⟨X, 2, none⟩ (.slice (some ⟨g, off, none⟩) n' c')) (some ⟨g, off, none⟩) n' (ls.drop 1) := h1.grown (grown_setCell _ X 2 _) (fun g' o' ha e => by cases ha; cases e; exact hgX rfl)
    exact ⟨h2.1, h2.2⟩
  · show ((w1.setCell ⟨rb, 1, none⟩ (.string l0)).setCell ⟨X, 2, none⟩ (.slice (some ⟨g, off, none⟩) n' c')).heap[rb]? = _
    rw [hl0]
    exact (Below.heap_setCell _ _ _ _ hrX).trans (heap_setCell_same hr 1 _)
theorem SSl.tail {w : World} {g off n : Nat} {ls : List ByteArray} (hn : ls.length = n) (hc : ∀ j, j < n → w.cell? ⟨g, off + j, none⟩ = some (.string (ls.getD j ⟨#[]⟩))) : SSl w (some ⟨g, off + 1, none⟩) (n - 1) (ls.drop 1) := by
  refine ⟨by simp; omega, fun h0 => ⟨g, off + 1, rfl, fun j hj => ?_⟩⟩
  have := hc (1 + j) (by omega)
  rw [Nat.add_assoc, this]
  simp [Nat.add_comm]

set_option maxRecDepth 100000 in
set_option maxHeartbeats 2000000 in
theorem take_any (who line0 : ByteArray) (rb X : Nat) (ep : Int) (se sc : ByteArray) (ls : List ByteArray) (a : Option Addr) (n c : Nat) (S : Nat → Prop) (hSX : S X) (hSr : S rb) (w : World) (hs : SRow w (.slice a n c) ls) (hne : ∀ g, (Value.slice a n c).ownBlock = some g → g ≠ X ∧ g ≠ rb) (hrX : rb ≠ X) (hw : who.size ≤ 35184372088832) (hse : se.size ≤ 35184372088832) (hn16 : n ≤ 1000000)
    (hX : w.heap[X]? = some (.cells #[.int .i64 ep, .string se, .slice a n c, .string sc] 38 (0, 0)))
    (hr : w.heap[rb]? = some (.cells #[.string who, .string line0] 115 (0, 0))) :
    Calls Tryz.prog 55 #[.pointer (some ⟨rb, 0, none⟩), .pointer (some ⟨X, 0, none⟩)] w (TakePost X rb S w who ⟨ep, se, ls, sc⟩) := by
  have c1 : w.cell? ⟨X, 1, none⟩ = some (.string se) := cell_of_heap hX 1
  have r0 : w.cell? ⟨rb, 0, none⟩ = some (.string who) := cell_of_heap hr 0
  have hlt := lt_of_heap hX
  have hltr := lt_of_heap hr
  have hn := hs.sl.1
  have HX := Lib.hid hX; clear hX
  have Hr := Lib.hid hr; clear hr
  have Hs := Lib.hid hs; clear hs
  have Hn := Lib.hid hn; clear hn
  have Hne := Lib.hid hne; clear hne
  by_cases h1 : se.size = 0
  · have he : Hid (opTake who ⟨ep, se, ls, sc⟩ = (⟨ep, se, ls, sc⟩, 10)) := by show _ = _; simp [opTake, h1]
    have h1' := empty_of h1
    go_enter Tryz.func55, Tryz.ntmps55
    go_wp2
    go_quiet (fail)
    go_wp2
    go_ret
    unfold TakePost
    rw [he.out]
    exact ⟨op_fail (by decide) (below_drewN (Below.refl _ _) _), fun h => by cases h⟩
  · have h1' := nonempty_of h1
    cases h2 : withinB who se with
    | false =>
      have he : Hid (opTake who ⟨ep, se, ls, sc⟩ = (⟨ep, se, ls, sc⟩, 10)) := by show _ = _; simp [opTake, h2]
      go_enter Tryz.func55, Tryz.ntmps55
      go_wp2
      go_region_held3 (fun w' => w'.cell? ⟨X, 1, none⟩ = some (.string se) ∧ w'.cell? ⟨rb, 0, none⟩ = some (.string who)) (first | go_keep | exact ⟨c1, r0⟩ | (go_split_ands; refine ⟨?_, ?_⟩ <;> (rw [(bcell hb1).1 _ _ (by simp <;> omega)]; go_keep)))
        (first | (go_at_call 92; refine (within_is who se _ hw hse h2 _).mono ?_; rintro e w1 ⟨rfl, hb1⟩))
      go_wp2
      go_ret
      unfold TakePost
      rw [he.out]
      exact ⟨op_fail (by decide) ((Below.drew (Below.refl _ _)).trans hb1), fun h => by cases h⟩
    | true =>
      go_enter Tryz.func55, Tryz.ntmps55
      go_wp2
      go_region_held3 (fun w' => w'.cell? ⟨X, 1, none⟩ = some (.string se) ∧ w'.cell? ⟨rb, 0, none⟩ = some (.string who)) (first | go_keep | exact ⟨c1, r0⟩ | (go_split_ands; refine ⟨?_, ?_⟩ <;> (rw [(bcell hb1).1 _ _ (by simp <;> omega)]; go_keep)))
        (first | (go_at_call 92; refine (within_is who se _ hw hse h2 _).mono ?_; rintro e w1 ⟨rfl, hb1⟩))
      have HB1 : Hid (Below w.heap.size w w1) := (Below.drew (Below.refl _ _)).trans hb1
      clear hb1
      have hX1 := (HB1.out.block X hlt).trans HX.out
      have hr1 := (HB1.out.block rb hltr).trans Hr.out
      clear c1 r0
      have c2 : w1.cell? ⟨X, 2, none⟩ = some (.slice a n c) := cell_of_heap hX1 2
      have g2 : w1.frozen? ⟨X, 2, none⟩ = false := frozen_of_heap hX1 2
      have d1 : w1.cell? ⟨rb, 1, none⟩ = some (.string line0) := cell_of_heap hr1 1
      have g1 : w1.frozen? ⟨rb, 1, none⟩ = false := frozen_of_heap hr1 1
      have HX1 := Lib.hid hX1; clear hX1
      have Hr1 := Lib.hid hr1; clear hr1
      by_cases h3 : n = 0
      · have he : Hid (opTake who ⟨ep, se, ls, sc⟩ = (⟨ep, se, ls, sc⟩, 19)) := by show _ = _; simp [opTake, h1, h2, Hn.out, h3]
        subst h3
        go_wp2
        go_ret
        unfold TakePost
        rw [he.out]
        exact ⟨op_fail (by decide) HB1.out, fun h => by cases h⟩
      · have he : Hid (opTake who ⟨ep, se, ls, sc⟩ = (⟨ep, se, ls.drop 1, sc⟩, 0)) := by show _ = _; simp [opTake, h1, h2, Hn.out, h3]
        obtain ⟨g, off, rfl, hcell⟩ := (Hs.out.sl.later HB1.out).2 (by omega)
        have hnc : n ≤ c := by
          rcases Hs.out.2 with ⟨hv, _⟩ | ⟨g', cap, cur, hv, _, _, h5, _⟩
          · cases hv
          · cases hv; omega
        have hg := Hne.out g rfl
        have e0 : w1.cell? ⟨g, off, none⟩ = some (.string (ls.getD 0 ⟨#[]⟩)) := hcell 0 (by omega)
        have Hcell : Hid (∀ j, j < n → w1.cell? ⟨g, off + j, none⟩ = some (.string (ls.getD j ⟨#[]⟩))) := hcell
        clear hcell
        have h3' : ((n : Int) == 0) = false := beq_eq_false_iff_ne.2 (by omega)
        have hn1 : 1 ≤ n := by omega
        have hn0 : 0 < n := by omega
        generalize hl0 : ls.getD 0 ⟨#[]⟩ = l0 at *
        have Hl0 := Lib.hid hl0; clear hl0
        clear h3
        have hgX := hg.1
        have hgr := hg.2
        have hXg := Ne.symm hgX
        have hrg := Ne.symm hgr
        have hXr := Ne.symm hrX
        clear hg
        by_cases hc1 : c = 1
        · subst hc1
          obtain rfl : n = 1 := by omega
          go_wp2
          go_region
          go_wp2
          go_ret
          exact take_post hSX hSr hrX hgX hgr HB1.out HX1.out Hr1.out ⟨by simp [Hn.out], fun h => absurd h (Nat.lt_irrefl _)⟩ Hl0.out he.out
        · go_wp2
          go_region
          go_wp2
          go_ret
          exact take_post hSX hSr hrX hgX hgr HB1.out HX1.out Hr1.out (SSl.tail Hn.out Hcell.out) Hl0.out he.out

end Go.Proofs.YtfobmfenjdiimaaGreatDoor
