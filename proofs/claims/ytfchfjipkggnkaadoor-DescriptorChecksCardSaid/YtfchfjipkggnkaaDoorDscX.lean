/- codec: the Writer leaves a block alone that is not its own. (printed by wip/gen_dsce.py) -/
import Derived.Test.YtfchfjipkggnkaaDoorDscB
import Derived.Deep.LoopGhost
import Derived.Test.YtfchfjipkggnkaaDoorViewB
namespace Go.Proofs.YtfchfjipkggnkaaDoor
open Go.RowKit

/-- A Writer whose row is not the block X. -/
def WrX (B b X : Nat) (w : World) (bs : List UInt8) : Prop :=
  B ≤ b ∧ X < w.heap.size ∧ X ≠ b ∧ ∃ v, w.heap[b]? = some (.cells #[v, .int .i64 0] 108 (0, 0)) ∧ BRow w v bs ∧ ∀ g, v.ownBlock = some g → (B ≤ g ∧ g ≠ b) ∧ g ≠ X
def WrXPost (B b X : Nat) (w : World) (bs : List UInt8) (r : Ending) (w' : World) : Prop :=
  r = .returned (.tuple #[]) ∧ WrX B b X w' bs ∧ Below B w w' ∧ w'.heap[X]? = w.heap[X]?
theorem WrX.wr {B b X : Nat} {w : World} {bs : List UInt8} (h : WrX B b X w bs) : Wr B b w bs := by
  obtain ⟨h1, -, -, v, h2, h3, h4⟩ := h
  exact ⟨h1, v, h2, h3, fun g hg => (h4 g hg).1⟩
theorem Wr.x {B b : Nat} {w : World} {bs : List UInt8} (h : Wr B b w bs) (ob : Obj) : WrX B b w.heap.size (w.alloc ob) bs := by
  obtain ⟨h1, v, h2, h3, h4⟩ := h
  have hlt := lt_of_heap h2
  refine ⟨h1, by simp, by omega, v, (Below.heap_alloc w ob _ hlt).trans h2, World.ownsRow.alloc h3 ob, fun g hg => ⟨h4 g hg, fun e => ?_⟩⟩
  obtain ⟨cur, hc⟩ := row_lt h3 hg
  have := lt_of_heap hc
  omega
theorem wrX_stored {B b X : Nat} {w w1 : World} {v : Value} {g m cap : Nat} {bs : List UInt8} (hBb : B ≤ b) (hB : B ≤ w.heap.size) (hX : X < w.heap.size) (hXb : X ≠ b) (hh : w.heap[b]? = some (.cells #[v, .int .i64 0] 108 (0, 0))) (hlie : ∀ g, v.ownBlock = some g → (B ≤ g ∧ g ≠ b) ∧ g ≠ X)
    (hg : w.grownBy w1 v.ownBlock) (hl : LiesAt w v g) (hrow : BRow w1 (.slice (some ⟨g, 0, none⟩) m cap) bs) :
    WrX B b X (w1.setCell ⟨b, 0, none⟩ (.slice (some ⟨g, 0, none⟩) m cap)) bs ∧ Below B w (w1.setCell ⟨b, 0, none⟩ (.slice (some ⟨g, 0, none⟩) m cap)) ∧ (w1.setCell ⟨b, 0, none⟩ (.slice (some ⟨g, 0, none⟩) m cap)).heap[X]? = w.heap[X]? := by
  have hgX : g ≠ X := by
    rcases hl with h | h
    · exact (hlie g h).2
    · omega
  obtain ⟨-, h2⟩ := wr_stored hBb hB hh (fun g h => (hlie g h).1) hg hl hrow
  have hgb := wr_apart hh (fun g h => (hlie g h).1) hl
  have hgB : B ≤ g := by
    rcases hl with h | h
    · exact (hlie g h).1.1
    · omega
  have hb1 := wr_later hh (fun g h => (hlie g h).1) hg
  refine ⟨⟨hBb, ?_, hXb, _, heap_setCell_same hb1 0 _, hrow.stored hgb.2 _, fun g' hg' => ?_⟩, h2, ?_⟩
  · have := h2.size; omega
  · obtain rfl : g = g' := by simpa [Value.ownBlock] using hg'
    exact ⟨⟨hgB, hgb.2⟩, hgX⟩
  · rw [Below.heap_setCell _ _ _ _ hXb]
    exact hg.block X hX (fun e => (hlie X e.symm).2 rfl)
set_option maxRecDepth 100000 in
set_option maxHeartbeats 800000 in
theorem numberX_any (B b X : Nat) (bs : List UInt8) (n : Int) (w : World) (hn0 : 0 ≤ n) (hn : n ≤ 9223372036854775807) (hlen : bs.length ≤ 1099511627776) (hB : B ≤ w.heap.size) (h : WrX B b X w bs) :
    Calls Tryd.prog 32 #[.pointer (some ⟨b, 0, none⟩), .int .i64 n] w (WrXPost B b X w (bs ++ natBytes n.toNat)) := by
  obtain ⟨k, rfl⟩ := Int.eq_ofNat_of_zero_le hn0
  obtain ⟨hBb, hX, hXb, v, hh, hrow, hlie⟩ := h
  have hc0 : w.cell? ⟨b, 0, none⟩ = some v := by simp [World.cell?, hh]
  have Hh := Lib.hid hh; clear hh
  have Hlie := Lib.hid hlie; clear hlie
  have Hl1e : Hid (∀ g, v.ownBlock = some g → B ≤ g ∧ g ≠ b) := fun g hg => (Hlie.out g hg).1
  have Hlen := Lib.hid hlen; clear hlen
  have Hrow := Lib.hid hrow; clear hrow
  have HX := Lib.hid hX; clear hX
  have HXb := Lib.hid hXb; clear hXb
  go_enter Tryd.func32, Tryd.ntmps32
  go_wp2_with fail
  refine (works_any b 0 v _ Hh.out).mono ?_
  rintro e w' ⟨rfl, rfl⟩
  go_wp2_with fail
  refine (appendNatural_any v bs k _ (by omega) Hlen.out Hrow.out).mono ?_
  rintro e w1 ⟨g, m, cap, rfl, hrow1, hg1, hl1⟩
  have hb1 := wr_later Hh.out Hl1e.out hg1
  have hc1 : w1.cell? ⟨b, 0, none⟩ = some v := cell_of_heap hb1 0
  have hf1 : w1.frozen? ⟨b, 0, none⟩ = false := frozen_of_heap hb1 0
  have Hb1 := Lib.hid hb1; clear hb1
  have Hg1 := Lib.hid hg1; clear hg1
  have Hl1 := Lib.hid hl1; clear hl1
  have Hrow1 := Lib.hid hrow1; clear hrow1
  go_wp2
  go_end0
  exact ⟨rfl, wrX_stored hBb hB HX.out HXb.out Hh.out Hlie.out Hg1.out Hl1.out Hrow1.out⟩
set_option maxRecDepth 100000 in
set_option maxHeartbeats 800000 in
theorem textXX_any (B b X : Nat) (bs : List UInt8) (s : ByteArray) (w : World) (hs : s.size ≤ 16777216) (hlen : bs.length ≤ 1099511627776) (hB : B ≤ w.heap.size) (h : WrX B b X w bs) :
    Calls Tryd.prog 33 #[.pointer (some ⟨b, 0, none⟩), .string s] w (WrXPost B b X w (bs ++ natBytes s.size ++ s.data.toList)) := by
  obtain ⟨hBb, hX, hXb, v, hh, hrow, hlie⟩ := h
  have hc0 : w.cell? ⟨b, 0, none⟩ = some v := by simp [World.cell?, hh]
  have Hh := Lib.hid hh; clear hh
  have Hlie := Lib.hid hlie; clear hlie
  have Hl1e : Hid (∀ g, v.ownBlock = some g → B ≤ g ∧ g ≠ b) := fun g hg => (Hlie.out g hg).1
  have Hlen := Lib.hid hlen; clear hlen
  have Hrow := Lib.hid hrow; clear hrow
  have HX := Lib.hid hX; clear hX
  have HXb := Lib.hid hXb; clear hXb
  have hgt : ¬ (16777216 < (s.size : Int)) := by omega
  go_enter Tryd.func33, Tryd.ntmps33
  go_wp2_with fail
  refine (works_any b 0 v _ Hh.out).mono ?_
  rintro e w' ⟨rfl, rfl⟩
  go_wp2_with fail
  refine (appendNatural_any v bs s.size _ (by omega) Hlen.out Hrow.out).mono ?_
  rintro e w1 ⟨g, m, cap, rfl, hrow1, hg1, hl1⟩
  have hb1 := wr_later Hh.out Hl1e.out hg1
  have hgb := wr_apart Hh.out Hl1e.out hl1
  have Hb1 := Lib.hid hb1; clear hb1
  have Hg1 := Lib.hid hg1; clear hg1
  have Hl1 := Lib.hid hl1; clear hl1
  have Hrow1 := Lib.hid hrow1; clear hrow1
  have Hl : Hid ((bs ++ natBytes s.size).length + s.size ≤ 70368744177664) := by
    show _ ≤ _
    have h1 := Hlen.out
    have h2 := natBytes_length s.size
    simp; omega
  go_wp2_with (at_builtin; refine wpList_append_str rfl _ _ rfl g m cap _ rfl Hrow1.out s rfl Hl.out ?_; intro g2 m2 cap2 w2 hrow2 hg2 hl2; have hb2 := (hg2.block b (Nat.lt_of_lt_of_le (lt_of_heap Hh.out) Hg1.out.size) (fun e => hgb.2 (by cases e; rfl))).trans Hb1.out; have hc2 : w2.cell? ⟨b, 0, none⟩ = some v := cell_of_heap hb2 0; have hf2 : w2.frozen? ⟨b, 0, none⟩ = false := frozen_of_heap hb2 0; have Hb2 := Lib.hid hb2; clear hb2; have Hg2 := Lib.hid hg2; clear hg2; have Hl2 := Lib.hid hl2; clear hl2; have Hrow2 := Lib.hid hrow2; clear hrow2)
  go_end0
  refine ⟨rfl, wrX_stored hBb hB HX.out HXb.out Hh.out Hlie.out (grown_step Hg1.out (v' := .slice (some ⟨g, 0, none⟩) m cap) (fun g' hg' => ?_) Hg2.out) ?_ Hrow2.out⟩
  · obtain rfl : g = g' := by simpa [Value.ownBlock] using hg'
    exact Hl1.out
  · rcases Hl2.out with h | h
    · rw [h]; exact Hl1.out
    · exact .inr (Nat.le_trans Hg1.out.size h)
set_option maxRecDepth 100000 in
set_option maxHeartbeats 1600000 in
theorem flagX_any (B b X : Nat) (bs : List UInt8) (f : Bool) (w : World) (hlen : bs.length ≤ 35184372088832) (hB : B ≤ w.heap.size) (h : WrX B b X w bs) :
    Calls Tryd.prog 34 #[.pointer (some ⟨b, 0, none⟩), .bool f] w (WrXPost B b X w (bs ++ flagB f)) := by
  obtain ⟨hBb, hX, hXb, v, hh, hrow, hlie⟩ := h
  have hc0 : w.cell? ⟨b, 0, none⟩ = some v := by simp [World.cell?, hh]
  have Hh := Lib.hid hh; clear hh
  have Hlie := Lib.hid hlie; clear hlie
  have Hl1e : Hid (∀ g, v.ownBlock = some g → B ≤ g ∧ g ≠ b) := fun g hg => (Hlie.out g hg).1
  have Hlen := Lib.hid hlen; clear hlen
  have Hrow := Lib.hid hrow; clear hrow
  have HX := Lib.hid hX; clear hX
  have HXb := Lib.hid hXb; clear hXb
  go_enter Tryd.func34, Tryd.ntmps34
  go_wp2_with fail
  refine (works_any b 0 v _ Hh.out).mono ?_
  rintro e w' ⟨rfl, rfl⟩
  cases f
  · go_wp2_with (at_builtin; refine wpList_append_byte rfl _ _ rfl v bs rfl Hrow.out (0 : UInt8) _ (by rfl) rfl Hlen.out ?_; intro g m cap w1 hrow1 hg1 hl1; have hb1 := wr_later Hh.out Hl1e.out hg1; have hc1 : w1.cell? ⟨b, 0, none⟩ = some v := cell_of_heap hb1 0; have hf1 : w1.frozen? ⟨b, 0, none⟩ = false := frozen_of_heap hb1 0; have Hb1 := Lib.hid hb1; clear hb1; have Hg1 := Lib.hid hg1; clear hg1; have Hl1 := Lib.hid hl1; clear hl1; have Hrow1 := Lib.hid hrow1; clear hrow1)
    go_end0
    exact ⟨rfl, wrX_stored hBb hB HX.out HXb.out Hh.out Hlie.out Hg1.out Hl1.out Hrow1.out⟩
  · go_wp2_with (at_builtin; refine wpList_append_byte rfl _ _ rfl v bs rfl Hrow.out (1 : UInt8) _ (by rfl) rfl Hlen.out ?_; intro g m cap w1 hrow1 hg1 hl1; have hb1 := wr_later Hh.out Hl1e.out hg1; have hc1 : w1.cell? ⟨b, 0, none⟩ = some v := cell_of_heap hb1 0; have hf1 : w1.frozen? ⟨b, 0, none⟩ = false := frozen_of_heap hb1 0; have Hb1 := Lib.hid hb1; clear hb1; have Hg1 := Lib.hid hg1; clear hg1; have Hl1 := Lib.hid hl1; clear hl1; have Hrow1 := Lib.hid hrow1; clear hrow1)
    go_end0
    exact ⟨rfl, wrX_stored hBb hB HX.out HXb.out Hh.out Hlie.out Hg1.out Hl1.out Hrow1.out⟩
end Go.Proofs.YtfchfjipkggnkaaDoor
