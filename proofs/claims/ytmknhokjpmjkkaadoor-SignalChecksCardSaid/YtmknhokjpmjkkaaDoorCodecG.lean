/- Contracts of codec: the Reader. -/
import Derived.Test.YtmknhokjpmjkkaaDoorCodecF
namespace Go.Proofs.YtmknhokjpmjkkaaDoor
open Go.RowKit

/-- The state of a Reader: what is left, and the error. -/
structure RdS where
  rest : List UInt8
  fail : Nat

def rdNum (most : Int) (s : RdS) : Nat × RdS :=
  if s.fail ≠ 0 then (0, s) else if (numParse most s.rest).2.2 ≠ 0 then (0, ⟨s.rest, (numParse most s.rest).2.2⟩) else ((numParse most s.rest).1, ⟨s.rest.drop (numParse most s.rest).2.1, 0⟩)
def rdText (most : Int) (s : RdS) : List UInt8 × RdS :=
  if s.fail ≠ 0 then ([], s) else if (textParse most s.rest).2.2 ≠ 0 then ([], ⟨s.rest, (textParse most s.rest).2.2⟩) else ((textParse most s.rest).1, ⟨s.rest.drop (textParse most s.rest).2.1, 0⟩)

/-- A Reader at block b, all of it in blocks of B. -/
def Rd (B : Nat → Prop) (b : Nat) (w : World) (s : RdS) : Prop :=
  B b ∧ ∃ (g off n c : Nat) (p : Int), w.heap[b]? = some (.cells #[.slice (some ⟨g, off, none⟩) n c, .int .i64 p, .int .i64 s.fail] 190 (0, 0)) ∧ BSl w g off n s.rest ∧ n ≤ c ∧ B g ∧ g ≠ b ∧ s.rest.length ≤ 70368744177664

def RdPost (B : Nat → Prop) (b : Nat) (w : World) (v : Value) (s : RdS) (r : Ending) (w' : World) : Prop := r = .returned v ∧ Rd B b w' s ∧ w.grownBy w' (some b)

theorem BSl.kept {w w' : World} {g off n : Nat} {bs : List UInt8} (h : BSl w g off n bs) (hk : w'.heap[g]? = w.heap[g]?) : BSl w' g off n bs :=
  ⟨h.1, fun j hj => (World.cell?_of_block (a := ⟨g, off + j, none⟩) hk).trans (h.2 j hj)⟩
theorem BSl.drop {w : World} {g off n : Nat} {bs : List UInt8} (h : BSl w g off n bs) (k : Nat) : BSl w g (off + k) (n - k) (bs.drop k) := by
  refine ⟨by rw [List.length_drop, h.1], fun j hj => ?_⟩
  rw [Nat.add_assoc, h.2 (k + j) (by omega)]
  simp

theorem numParse_small (most : Int) (bs : List UInt8) : (numParse most bs).1 < 9223372036854775808 ∧ (numParse most bs).2.1 ≤ bs.length ∧ (numParse most bs).2.1 ≤ 9 ∧ (numParse most bs).2.2 ≤ 28 := by
  have h := parse9_small bs
  unfold numParse
  split
  · exact ⟨h.1, h.2.1, h.2.2.1, by simp⟩
  · exact h

theorem textParse_small (most : Int) (bs : List UInt8) : (textParse most bs).2.1 ≤ bs.length ∧ (textParse most bs).2.2 ≤ 28 := by
  have h := parse9_small bs
  unfold textParse
  split
  · exact ⟨Nat.zero_le _, h.2.2.2⟩
  · split
    · simp
    · split
      · simp
      · exact ⟨by dsimp only; omega, by simp⟩

theorem rd_stored {B : Nat → Prop} {b : Nat} {w : World} {g off n c : Nat} {p : Int} {e : Int} (hBb : B b) (hBg : B g) (hgb : g ≠ b) (hh : w.heap[b]? = some (.cells #[.slice (some ⟨g, off, none⟩) n c, .int .i64 p, .int .i64 e] 190 (0, 0))) (he : e = 0)
    (off' n' c' : Nat) (p' : Int) (rest : List UInt8) (hsl : BSl w g off' n' rest) (hnc : n' ≤ c') (hlen : rest.length ≤ 70368744177664) :
    Rd B b ((w.setCell ⟨b, 0, none⟩ (.slice (some ⟨g, off', none⟩) n' c')).setCell ⟨b, 1, none⟩ (.int .i64 p')) ⟨rest, 0⟩ ∧ w.grownBy ((w.setCell ⟨b, 0, none⟩ (.slice (some ⟨g, off', none⟩) n' c')).setCell ⟨b, 1, none⟩ (.int .i64 p')) (some b) := by
  subst he
  refine ⟨⟨hBb, g, off', n', c', p', ?_, ?_, hnc, hBg, hgb, hlen⟩, ?_⟩
  · exact heap_setCell_same (heap_setCell_same hh 0 _) 1 _
  · exact hsl.kept ((Below.heap_setCell _ _ _ _ hgb).trans (Below.heap_setCell _ _ _ _ hgb))
  · exact grown_trans (grown_setCell _ _ _ _) (grown_setCell _ _ _ _)

theorem rd_failed {B : Nat → Prop} {b : Nat} {w : World} {g off n c : Nat} {p : Int} {e : Int} (hBb : B b) (hBg : B g) (hgb : g ≠ b) (hh : w.heap[b]? = some (.cells #[.slice (some ⟨g, off, none⟩) n c, .int .i64 p, .int .i64 e] 190 (0, 0)))
    (rest : List UInt8) (hsl : BSl w g off n rest) (hnc : n ≤ c) (hlen : rest.length ≤ 70368744177664) (f : Nat) :
    Rd B b (w.setCell ⟨b, 2, none⟩ (.int .i64 f)) ⟨rest, f⟩ ∧ w.grownBy (w.setCell ⟨b, 2, none⟩ (.int .i64 f)) (some b) := by
  refine ⟨⟨hBb, g, off, n, c, p, ?_, ?_, hnc, hBg, hgb, hlen⟩, ?_⟩
  · exact heap_setCell_same hh 2 _
  · exact hsl.kept (Below.heap_setCell _ _ _ _ hgb)
  · exact grown_setCell _ _ _ _

set_option maxRecDepth 100000 in
set_option maxHeartbeats 800000 in
theorem readInt_any (B : Nat → Prop) (b m : Nat) (most : Int) (s : RdS) (w : World) (hm : w.cell? ⟨m, 0, none⟩ = some (.int .i64 most)) (h : Rd B b w s) :
    Calls Tryd.prog 130 #[.pointer (some ⟨b, 0, none⟩), .func (.func 131) #[] #[.pointer (some ⟨m, 0, none⟩)]] w
      (RdPost B b w (.int .i64 (rdNum most s).1) (rdNum most s).2) := by
  obtain ⟨hBb, g, off, n, c, p, hh, hsl, hnc, hBg, hgb, hlen⟩ := h
  have hc0 : w.cell? ⟨b, 0, none⟩ = some (.slice (some ⟨g, off, none⟩) n c) := cell_of_heap hh 0
  have hc1 : w.cell? ⟨b, 1, none⟩ = some (.int .i64 p) := cell_of_heap hh 1
  have hc2 : w.cell? ⟨b, 2, none⟩ = some (.int .i64 s.fail) := cell_of_heap hh 2
  have hf0 : w.frozen? ⟨b, 0, none⟩ = false := frozen_of_heap hh 0
  have hf1 : w.frozen? ⟨b, 1, none⟩ = false := frozen_of_heap hh 1
  have hf2 : w.frozen? ⟨b, 2, none⟩ = false := frozen_of_heap hh 2
  have Hh := Lib.hid hh; clear hh
  have Hsl := Lib.hid hsl; clear hsl
  have Hlen := Lib.hid hlen; clear hlen
  have Hs := Lib.hid (numParse_small most s.rest)
  have Hgb := Lib.hid hgb; clear hgb
  by_cases h0 : s.fail = 0
  · have hn2 : n ≤ 70368744177664 := by have := Hsl.out.1; have := Hlen.out; omega
    rw [h0] at hc2
    have hc2' : w.cell? ⟨b, 2, none⟩ = some (.int .i64 0) := hc2
    clear hc2
    go_enter Tryd.func130, Tryd.ntmps130
    go_wp2_with fail
    refine (number1_any g off n c m most s.rest _ Hlen.out Hsl.out hm).mono ?_
    rintro e w1 ⟨rfl, rfl⟩
    have h1 := Hs.out
    have hq2n : (numParse most s.rest).2.1 ≤ n := by have := Hsl.out.1; omega
    clear Hs
    generalize hq : numParse most s.rest = q at *
    have Hq := Lib.hid hq; clear hq
    have H0 := Lib.hid h0; clear h0
    obtain ⟨q1, q2, q3⟩ := q
    dsimp only at *
    by_cases h3 : q3 = 0
    · subst h3
      have hfin : Hid (rdNum most s = (q1, ⟨s.rest.drop q2, 0⟩)) := by show _ = _; unfold rdNum; rw [Hq.out]; simp [H0.out]
      by_cases hcq : c = q2
      · subst hcq
        obtain rfl : n = c := by omega
        go_wp2
        go_ret
        rw [hfin.out]
        refine ⟨rfl, rd_stored hBb hBg Hgb.out Hh.out (by rw [H0.out]; rfl) _ _ _ _ _ ⟨?_, fun j hj => by omega⟩ (by omega) (by have := Hlen.out; simp; omega)⟩
        have := Hsl.out.1
        simp; omega
      · go_wp2
        go_ret
        rw [hfin.out]
        exact ⟨rfl, rd_stored hBb hBg Hgb.out Hh.out (by rw [H0.out]; rfl) _ _ _ _ _ (Hsl.out.drop q2) (by omega) (by have := Hlen.out; simp; omega)⟩
    · have hfin : Hid (rdNum most s = (0, ⟨s.rest, q3⟩)) := by show _ = _; unfold rdNum; rw [Hq.out]; simp [H0.out, h3]
      have h3' : ((q3 : Int) != 0) = true := bne_iff_ne.2 (by omega)
      clear h3
      go_wp2
      go_ret
      rw [hfin.out]
      exact ⟨rfl, rd_failed hBb hBg Hgb.out Hh.out _ Hsl.out hnc Hlen.out _⟩
  · have hfin : Hid (rdNum most s = (0, s)) := by show _ = _; unfold rdNum; simp [h0]
    generalize hfl : s.fail = f at *
    have Hfl := Lib.hid hfl; clear hfl
    have h0' : ((f : Int) != 0) = true := bne_iff_ne.2 (by omega)
    clear h0
    go_enter Tryd.func130, Tryd.ntmps130
    go_wp2
    go_ret
    rw [hfin.out]
    exact ⟨rfl, ⟨hBb, g, off, n, c, p, by rw [Hfl.out]; exact Hh.out, Hsl.out, hnc, hBg, Hgb.out, Hlen.out⟩, grown_refl _ _⟩

set_option maxRecDepth 100000 in
set_option maxHeartbeats 800000 in
theorem readString_any (B : Nat → Prop) (b m : Nat) (most : Int) (s : RdS) (w : World) (hm : w.cell? ⟨m, 0, none⟩ = some (.int .i64 most)) (h : Rd B b w s) :
    Calls Tryd.prog 135 #[.pointer (some ⟨b, 0, none⟩), .func (.func 136) #[] #[.pointer (some ⟨m, 0, none⟩)]] w
      (RdPost B b w (.string (strOf (rdText most s).1)) (rdText most s).2) := by
  obtain ⟨hBb, g, off, n, c, p, hh, hsl, hnc, hBg, hgb, hlen⟩ := h
  have hc0 : w.cell? ⟨b, 0, none⟩ = some (.slice (some ⟨g, off, none⟩) n c) := cell_of_heap hh 0
  have hc1 : w.cell? ⟨b, 1, none⟩ = some (.int .i64 p) := cell_of_heap hh 1
  have hc2 : w.cell? ⟨b, 2, none⟩ = some (.int .i64 s.fail) := cell_of_heap hh 2
  have hf0 : w.frozen? ⟨b, 0, none⟩ = false := frozen_of_heap hh 0
  have hf1 : w.frozen? ⟨b, 1, none⟩ = false := frozen_of_heap hh 1
  have hf2 : w.frozen? ⟨b, 2, none⟩ = false := frozen_of_heap hh 2
  have Hh := Lib.hid hh; clear hh
  have Hsl := Lib.hid hsl; clear hsl
  have Hlen := Lib.hid hlen; clear hlen
  have Hs := Lib.hid (textParse_small most s.rest)
  have Hgb := Lib.hid hgb; clear hgb
  by_cases h0 : s.fail = 0
  · have hn2 : n ≤ 70368744177664 := by have := Hsl.out.1; have := Hlen.out; omega
    rw [h0] at hc2
    have hc2' : w.cell? ⟨b, 2, none⟩ = some (.int .i64 0) := hc2
    clear hc2
    go_enter Tryd.func135, Tryd.ntmps135
    go_wp2_with fail
    refine (text1_any g off n c m most s.rest _ Hlen.out hnc Hsl.out hm).mono ?_
    rintro e w1 ⟨rfl, rfl⟩
    have h1 := Hs.out
    have hq2n : (textParse most s.rest).2.1 ≤ n := by have := Hsl.out.1; omega
    clear Hs
    generalize hq : textParse most s.rest = q at *
    have Hq := Lib.hid hq; clear hq
    have H0 := Lib.hid h0; clear h0
    obtain ⟨q1, q2, q3⟩ := q
    dsimp only at *
    by_cases h3 : q3 = 0
    · subst h3
      have hfin : Hid (rdText most s = (q1, ⟨s.rest.drop q2, 0⟩)) := by show _ = _; unfold rdText; rw [Hq.out]; simp [H0.out]
      by_cases hcq : c = q2
      · subst hcq
        obtain rfl : n = c := by omega
        go_wp2
        go_ret
        rw [hfin.out]
        refine ⟨rfl, rd_stored hBb hBg Hgb.out Hh.out (by rw [H0.out]; rfl) _ _ _ _ _ ⟨?_, fun j hj => by omega⟩ (by omega) (by have := Hlen.out; simp; omega)⟩
        have := Hsl.out.1
        simp; omega
      · go_wp2
        go_ret
        rw [hfin.out]
        exact ⟨rfl, rd_stored hBb hBg Hgb.out Hh.out (by rw [H0.out]; rfl) _ _ _ _ _ (Hsl.out.drop q2) (by omega) (by have := Hlen.out; simp; omega)⟩
    · have hfin : Hid (rdText most s = ([], ⟨s.rest, q3⟩)) := by show _ = _; unfold rdText; rw [Hq.out]; simp [H0.out, h3]
      have h3' : ((q3 : Int) != 0) = true := bne_iff_ne.2 (by omega)
      clear h3
      go_wp2
      go_ret
      rw [hfin.out]
      exact ⟨rfl, rd_failed hBb hBg Hgb.out Hh.out _ Hsl.out hnc Hlen.out _⟩
  · have hfin : Hid (rdText most s = ([], s)) := by show _ = _; unfold rdText; simp [h0]
    generalize hfl : s.fail = f at *
    have Hfl := Lib.hid hfl; clear hfl
    have h0' : ((f : Int) != 0) = true := bne_iff_ne.2 (by omega)
    clear h0
    go_enter Tryd.func135, Tryd.ntmps135
    go_wp2
    go_ret
    rw [hfin.out]
    exact ⟨rfl, ⟨hBb, g, off, n, c, p, by rw [Hfl.out]; exact Hh.out, Hsl.out, hnc, hBg, Hgb.out, Hlen.out⟩, grown_refl _ _⟩


end Go.Proofs.YtmknhokjpmjkkaaDoor
