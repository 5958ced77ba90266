/- reference 32: Is, Make. -/
import Derived.Test.YtemmeopaihmlcaaGreatDoorRefF
import Derived.Test.YtemmeopaihmlcaaGreatDoorPipH
namespace Go.Proofs.YtemmeopaihmlcaaGreatDoor
open Go.RowKit
attribute [local go_sem ↓] Go.wp_at_zero Go.wp_at_succ

/-- A pipe that exists in an epoch. -/
def isPB (p : PipeT) (e : Int) : Bool := decide (checkP p = 0) && decide (p.epoch = e)
/-- A function of the reference in its midst: its argument's box, its result. -/
structure RJ (w W : World) (p : PipeT) : Prop where
  box : W.heap[w.heap.size]? = some (.cells (pCells p) 63 (0, 0))
  out : W.heap[w.heap.size + 1]? = some (.cells (pCells zeroP) 63 (0, 0))
  low : Below w.heap.size w W
variable {w W W' : World} {p : PipeT}
theorem RJ.later (h : RJ w W p) (hb : Below W.heap.size W W') : RJ w W' p := ⟨(hb.block _ (lt_of_heap h.box)).trans h.box, (hb.block _ (lt_of_heap h.out)).trans h.out, h.low.trans (hb.mono h.low.size)⟩
theorem RJ.start (w : World) (p : PipeT) : RJ w ((w.alloc (.cells (pCells p) 63)).alloc (.cells (pCells zeroP) 63)) p := ⟨(Below.heap_alloc _ _ _ (by simp)).trans (World.alloc_heap_new w _), second_new w _ _, ((Below.refl _ _).alloc (Nat.le_refl _) _).alloc (by simp) _⟩
theorem RJ.cells (h : RJ w W p) : (W.cell? ⟨w.heap.size, 0, none⟩ = some (.int .i64 p.epoch) ∧ W.cell? ⟨w.heap.size, 1, none⟩ = some (.int .i64 p.readers) ∧ W.cell? ⟨w.heap.size, 2, none⟩ = some (.int .i64 p.writers) ∧ W.cell? ⟨w.heap.size, 3, none⟩ = some (.string p.bytes)) :=
  ⟨cell_of_heap h.box 0, cell_of_heap h.box 1, cell_of_heap h.box 2, cell_of_heap h.box 3⟩
theorem RJ.outs (h : RJ w W p) : (W.cell? ⟨w.heap.size + 1, 0, none⟩ = some (.int .i64 0) ∧ W.cell? ⟨w.heap.size + 1, 1, none⟩ = some (.int .i64 0) ∧ W.cell? ⟨w.heap.size + 1, 2, none⟩ = some (.int .i64 0) ∧ W.cell? ⟨w.heap.size + 1, 3, none⟩ = some (.string ⟨#[]⟩)) :=
  ⟨cell_of_heap h.out 0, cell_of_heap h.out 1, cell_of_heap h.out 2, cell_of_heap h.out 3⟩
theorem RJ.free (h : RJ w W p) : W.frozen? ⟨w.heap.size + 1, 0, none⟩ = false ∧ W.frozen? ⟨w.heap.size + 1, 1, none⟩ = false ∧ W.frozen? ⟨w.heap.size + 1, 2, none⟩ = false ∧ W.frozen? ⟨w.heap.size + 1, 3, none⟩ = false :=
  ⟨frozen_of_heap h.out 0, frozen_of_heap h.out 1, frozen_of_heap h.out 2, frozen_of_heap h.out 3⟩
theorem RJ.boxFree (h : RJ w W p) (i : Nat) : W.frozen? ⟨w.heap.size, i, none⟩ = false := frozen_of_heap h.box i
theorem RJ.set (h : RJ w W p) (i : Nat) (v : Value) (p' : PipeT) (he : (pCells p).setIfInBounds i v = pCells p') : RJ w (W.setCell ⟨w.heap.size, i, none⟩ v) p' :=
  ⟨by rw [← he]; exact heap_setCell_same h.box i v, (Below.heap_setCell _ _ _ _ (by show w.heap.size + 1 ≠ w.heap.size; omega)).trans h.out, Below.grownRow h.low (grown_setCell _ _ _ _) (Nat.le_refl _) (fun k hk => by cases hk; omega)⟩
theorem RJ.fin (h : RJ w W p) (a b c d : Value) : Below w.heap.size w ((((W.setCell ⟨w.heap.size + 1, 0, none⟩ a).setCell ⟨w.heap.size + 1, 1, none⟩ b).setCell ⟨w.heap.size + 1, 2, none⟩ c).setCell ⟨w.heap.size + 1, 3, none⟩ d) :=
  Below.grownRow h.low (grown_trans (grown_trans (grown_trans (grown_setCell _ _ _ _) (grown_setCell _ _ _ _)) (grown_setCell _ _ _ _)) (grown_setCell _ _ _ _)) (Nat.le_refl _) (fun k hk => by cases hk; omega)

set_option maxRecDepth 100000 in
set_option maxHeartbeats 1000000 in
theorem rfIs_is (ep re wr : Int) (by_ : ByteArray) (e : Int) (v : Bool) (hv : isPB ⟨ep, re, wr, by_⟩ e = v) (w : World) :
    Calls Tryz.prog 99 #[.agg #[.int .i64 ep, .int .i64 re, .int .i64 wr, .string by_], .int .i64 e] w fun r w' => r = .returned (.bool v) ∧ Below w.heap.size w w' := by
  have Hv := Lib.hid hv; clear hv
  have Ha : Hid (∀ o, Below w.heap.size w (w.alloc o)) := fun o => (Below.refl _ _).alloc (Nat.le_refl _) _
  have HX : Hid (∀ o, (w.alloc o).heap[w.heap.size]? = some o) := fun o => heap_alloc_new w o
  obtain ⟨q, hq⟩ : ∃ q, checkP ⟨ep, re, wr, by_⟩ = q := ⟨_, rfl⟩
  have Hq := Lib.hid hq; clear hq
  go_enter Tryz.func99, Tryz.ntmps99
  go_wp2_with fail
  refine (rfCheck_is ep re wr by_ q Hq.out _).mono ?_
  rintro r w1 ⟨rfl, hb⟩
  have HB1 : Hid (Below w.heap.size w w1) := (Ha.out _).trans (hb.mono (by simp))
  have hX := (hb.block _ (lt_of_heap (HX.out _))).trans (HX.out _)
  have x0 : w1.cell? ⟨w.heap.size, 0, none⟩ = some (.int .i64 ep) := cell_of_heap hX 0
  clear hX hb HX Ha
  by_cases h0 : q = 0
  · subst h0
    by_cases he : ep = e
    · have he' : (ep == e) = true := by rw [he]; simp
      have e2 : Hid (v = true) := by show _ = _; rw [← Hv.out]; unfold isPB; rw [Hq.out]; simp [he]
      clear he Hv Hq
      go_wp2
      go_ret
      rw [e2.out]
      exact ⟨rfl, HB1.out⟩
    · have he' : (ep == e) = false := beq_eq_false_iff_ne.2 he
      have e2 : Hid (v = false) := by show _ = _; rw [← Hv.out]; unfold isPB; simp [he]
      clear he Hv Hq
      go_wp2
      go_ret
      rw [e2.out]
      exact ⟨rfl, HB1.out⟩
  · have h0' : ((q : Int) == 0) = false := beq_eq_false_iff_ne.2 (by omega)
    have e2 : Hid (v = false) := by show _ = _; rw [← Hv.out]; unfold isPB; rw [Hq.out]; simp [h0]
    clear h0 Hv Hq
    go_wp2
    go_ret
    rw [e2.out]
    exact ⟨rfl, HB1.out⟩
end Go.Proofs.YtemmeopaihmlcaaGreatDoor
