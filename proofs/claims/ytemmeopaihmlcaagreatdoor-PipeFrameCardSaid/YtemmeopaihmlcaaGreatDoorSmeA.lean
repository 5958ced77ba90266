/- Law 32: same: its boxes. Equality of results. -/
import Derived.Test.YtemmeopaihmlcaaGreatDoorPlyE
import Derived.Test.YtemmeopaihmlcaaGreatDoorRefF
import Derived.Deep.RegionHeld3
import Derived.BigQuiet
import Derived.BigRegion
import Derived.Deep.DeepCutAuto
namespace Go.Proofs.YtemmeopaihmlcaaGreatDoor
open Go.RowKit
attribute [local go_sem ↓] Go.wp_at_zero Go.wp_at_succ

theorem smTo_any (ep re wr : Int) (by_ : ByteArray) (w : World) :
    Calls Tryz.prog 100 #[.agg #[.int .i64 ep, .int .i64 re, .int .i64 wr, .string by_]] w fun r w' => r = .returned (.agg #[.int .i64 ep, .int .i64 re, .int .i64 wr, .string by_]) ∧ Below w.heap.size w w' := by
  go_enter Tryz.func100, Tryz.ntmps100
  go_wp2
  refine bodyPost_ret (v := .agg #[.int .i64 ep, .int .i64 re, .int .i64 wr, .string by_]) (by simp [results, Tryz.results100, go_sem]) rfl ⟨rfl, ?_⟩
  exact ((Below.refl _ _).alloc (Nat.le_refl _) _).alloc (by simp) _
theorem epoch_tests {e : Int} (h : pEpochB e = true) : decide (e < 0) = false ∧ decide (1073741824 < e) = false := by
  unfold pEpochB at h
  have := of_decide_eq_true h
  exact ⟨decide_eq_false (by omega), decide_eq_false (by omega)⟩
theorem epoch_ways {e : Int} (h : pEpochB e = false) : decide (e < 0) = true ∨ (decide (e < 0) = false ∧ decide (1073741824 < e) = true) := by
  unfold pEpochB at h
  have := of_decide_eq_false h
  by_cases h0 : e < 0
  · exact .inl (decide_eq_true h0)
  · exact .inr ⟨decide_eq_false h0, decide_eq_true (by omega)⟩
/-- Storing four cells. -/
theorem set4 {w : World} {R : Nat} {p0 p1 p2 p3 : Value} {T : TypeId} (hR : w.heap[R]? = some (.cells #[p0, p1, p2, p3] T (0, 0))) (a0 a1 a2 a3 : Value) :
    ((((w.setCell ⟨R, 0, none⟩ a0).setCell ⟨R, 1, none⟩ a1).setCell ⟨R, 2, none⟩ a2).setCell ⟨R, 3, none⟩ a3).heap[R]? = some (.cells #[a0, a1, a2, a3] T (0, 0)) := by
  have h1 : (w.setCell ⟨R, 0, none⟩ a0).heap[R]? = some (.cells #[a0, p1, p2, p3] T (0, 0)) := heap_setCell_same hR 0 a0
  have h2 : ((w.setCell ⟨R, 0, none⟩ a0).setCell ⟨R, 1, none⟩ a1).heap[R]? = some (.cells #[a0, a1, p2, p3] T (0, 0)) := heap_setCell_same h1 1 a1
  have h3 : (((w.setCell ⟨R, 0, none⟩ a0).setCell ⟨R, 1, none⟩ a1).setCell ⟨R, 2, none⟩ a2).heap[R]? = some (.cells #[a0, a1, a2, p3] T (0, 0)) := heap_setCell_same h2 2 a2
  have h4 : ((((w.setCell ⟨R, 0, none⟩ a0).setCell ⟨R, 1, none⟩ a1).setCell ⟨R, 2, none⟩ a2).setCell ⟨R, 3, none⟩ a3).heap[R]? = some (.cells #[a0, a1, a2, a3] T (0, 0)) := heap_setCell_same h3 3 a3
  exact h4
theorem set4_other (w : World) {R k : Nat} (hk : k ≠ R) (a0 a1 a2 a3 : Value) :
    ((((w.setCell ⟨R, 0, none⟩ a0).setCell ⟨R, 1, none⟩ a1).setCell ⟨R, 2, none⟩ a2).setCell ⟨R, 3, none⟩ a3).heap[k]? = w.heap[k]? :=
  (Below.heap_setCell _ _ _ _ hk).trans ((Below.heap_setCell _ _ _ _ hk).trans ((Below.heap_setCell _ _ _ _ hk).trans (Below.heap_setCell _ _ _ _ hk)))

/-- In the midst of same. -/
structure SmJ (R : Nat) (opc rc : Array Value) (p nx gt : PipeT) (w W : World) : Prop where
  bp : W.heap[R]? = some (.cells (pCells p) 63 (0, 0))
  bo : W.heap[R + 1]? = some (.cells opc 81 (0, 0))
  br : W.heap[R + 1 + 1]? = some (.cells rc 83 (0, 0))
  bn : W.heap[R + 1 + 1 + 1]? = some (.cells (pCells nx) 63 (0, 0))
  bg : W.heap[R + 1 + 1 + 1 + 1]? = some (.cells (pCells gt) 63 (0, 0))
  low : Below R w W
  le : R ≤ w.heap.size
def smW0 (w : World) (opc rc : Array Value) (p : PipeT) : World :=
  ((((w.alloc (.cells (pCells p) 63)).alloc (.cells opc 81)).alloc (.cells rc 83)).alloc (.cells (pCells p) 63)).alloc (.cells (pCells ⟨0, 0, 0, ⟨#[]⟩⟩) 63)
theorem sm_start (w : World) (opc rc : Array Value) (p : PipeT) : SmJ w.heap.size opc rc p p ⟨0, 0, 0, ⟨#[]⟩⟩ w (smW0 w opc rc p) := by
  unfold smW0
  refine ⟨?_, ?_, ?_, ?_, ?_, ?_, Nat.le_refl _⟩
  · exact (Below.heap_alloc _ _ _ (by simp; omega)).trans ((Below.heap_alloc _ _ _ (by simp; omega)).trans ((Below.heap_alloc _ _ _ (by simp; omega)).trans ((Below.heap_alloc _ _ _ (by simp)).trans (World.alloc_heap_new w _))))
  · exact (Below.heap_alloc _ _ _ (by simp)).trans ((Below.heap_alloc _ _ _ (by simp)).trans ((Below.heap_alloc _ _ _ (by simp)).trans (second_new w _ _)))
  · have := World.alloc_heap_new ((w.alloc (.cells (pCells p) 63)).alloc (.cells opc 81)) (.cells rc 83)
    rw [World.size_alloc, World.size_alloc] at this
    exact (Below.heap_alloc _ _ _ (by simp)).trans ((Below.heap_alloc _ _ _ (by simp)).trans this)
  · have := World.alloc_heap_new (((w.alloc (.cells (pCells p) 63)).alloc (.cells opc 81)).alloc (.cells rc 83)) (.cells (pCells p) 63)
    rw [World.size_alloc, World.size_alloc, World.size_alloc] at this
    exact (Below.heap_alloc _ _ _ (by simp)).trans this
  · have := World.alloc_heap_new ((((w.alloc (.cells (pCells p) 63)).alloc (.cells opc 81)).alloc (.cells rc 83)).alloc (.cells (pCells p) 63)) (.cells (pCells ⟨0, 0, 0, ⟨#[]⟩⟩) 63)
    rwa [World.size_alloc, World.size_alloc, World.size_alloc, World.size_alloc] at this
  · exact (((((Below.refl _ _).alloc (Nat.le_refl _) _).alloc (by simp) _).alloc (by simp; omega) _).alloc (by simp; omega) _).alloc (by simp; omega) _
section
variable {R : Nat} {opc rc : Array Value} {p nx gt : PipeT} {w W W' : World}
theorem SmJ.later (h : SmJ R opc rc p nx gt w W) (hb : Below W.heap.size W W') : SmJ R opc rc p nx gt w W' := by
  have hR : R ≤ W.heap.size := Nat.le_of_lt (lt_of_heap h.bp)
  exact ⟨(hb.block _ (lt_of_heap h.bp)).trans h.bp, (hb.block _ (lt_of_heap h.bo)).trans h.bo, (hb.block _ (lt_of_heap h.br)).trans h.br, (hb.block _ (lt_of_heap h.bn)).trans h.bn, (hb.block _ (lt_of_heap h.bg)).trans h.bg, h.low.trans (hb.mono hR), h.le⟩
theorem SmJ.next (h : SmJ R opc rc p nx gt w W) (q : PipeT) : SmJ R opc rc p q gt w ((((W.setCell ⟨R + 1 + 1 + 1, 0, none⟩ (.int .i64 q.epoch)).setCell ⟨R + 1 + 1 + 1, 1, none⟩ (.int .i64 q.readers)).setCell ⟨R + 1 + 1 + 1, 2, none⟩ (.int .i64 q.writers)).setCell ⟨R + 1 + 1 + 1, 3, none⟩ (.string q.bytes)) :=
  ⟨(set4_other _ (by omega) _ _ _ _).trans h.bp, (set4_other _ (by omega) _ _ _ _).trans h.bo, (set4_other _ (by omega) _ _ _ _).trans h.br, set4 h.bn _ _ _ _, (set4_other _ (by omega) _ _ _ _).trans h.bg,
    Below.grownRow h.low (grown_trans (grown_trans (grown_trans (grown_setCell _ _ _ _) (grown_setCell _ _ _ _)) (grown_setCell _ _ _ _)) (grown_setCell _ _ _ _)) h.le (fun k hk => by cases hk; omega), h.le⟩
theorem SmJ.got (h : SmJ R opc rc p nx gt w W) (q : PipeT) : SmJ R opc rc p nx q w ((((W.setCell ⟨R + 1 + 1 + 1 + 1, 0, none⟩ (.int .i64 q.epoch)).setCell ⟨R + 1 + 1 + 1 + 1, 1, none⟩ (.int .i64 q.readers)).setCell ⟨R + 1 + 1 + 1 + 1, 2, none⟩ (.int .i64 q.writers)).setCell ⟨R + 1 + 1 + 1 + 1, 3, none⟩ (.string q.bytes)) :=
  ⟨(set4_other _ (by omega) _ _ _ _).trans h.bp, (set4_other _ (by omega) _ _ _ _).trans h.bo, (set4_other _ (by omega) _ _ _ _).trans h.br, (set4_other _ (by omega) _ _ _ _).trans h.bn, set4 h.bg _ _ _ _,
    Below.grownRow h.low (grown_trans (grown_trans (grown_trans (grown_setCell _ _ _ _) (grown_setCell _ _ _ _)) (grown_setCell _ _ _ _)) (grown_setCell _ _ _ _)) h.le (fun k hk => by cases hk; omega), h.le⟩
theorem SmJ.drew (h : SmJ R opc rc p nx gt w W) : SmJ R opc rc p nx gt w W.drew := h.later (Below.drew (Below.refl _ _))
theorem SmJ.cellP (h : SmJ R opc rc p nx gt w W) (i : Nat) {v : Value} (hv : (pCells p)[i]? = some v) : W.cell? ⟨R, i, none⟩ = some v := (cell_of_heap h.bp i).trans hv
theorem SmJ.cellO (h : SmJ R opc rc p nx gt w W) (i : Nat) {v : Value} (hv : opc[i]? = some v) : W.cell? ⟨R + 1, i, none⟩ = some v := (cell_of_heap h.bo i).trans hv
theorem SmJ.cellR (h : SmJ R opc rc p nx gt w W) (i : Nat) {v : Value} (hv : rc[i]? = some v) : W.cell? ⟨R + 1 + 1, i, none⟩ = some v := (cell_of_heap h.br i).trans hv
theorem SmJ.cellN (h : SmJ R opc rc p nx gt w W) (i : Nat) {v : Value} (hv : (pCells nx)[i]? = some v) : W.cell? ⟨R + 1 + 1 + 1, i, none⟩ = some v := (cell_of_heap h.bn i).trans hv
theorem SmJ.cellG (h : SmJ R opc rc p nx gt w W) (i : Nat) {v : Value} (hv : (pCells gt)[i]? = some v) : W.cell? ⟨R + 1 + 1 + 1 + 1, i, none⟩ = some v := (cell_of_heap h.bg i).trans hv
end
/-- What the last region reads. -/
def SmC (R : Nat) (a0 a1 : Int) (a2 : ByteArray) (a3 a4 a5 : Int) (a6 : ByteArray) (nx gt : PipeT) (W : World) : Prop :=
  W.cell? ⟨R + 1 + 1, 0, none⟩ = some (.int .i64 a0) ∧ W.cell? ⟨R + 1 + 1, 1, none⟩ = some (.int .i64 a1) ∧ W.cell? ⟨R + 1 + 1, 2, none⟩ = some (.string a2) ∧ W.cell? ⟨R + 1 + 1, 3, none⟩ = some (.int .i64 a3) ∧ W.cell? ⟨R + 1 + 1, 4, none⟩ = some (.int .i64 a4) ∧ W.cell? ⟨R + 1 + 1, 5, none⟩ = some (.int .i64 a5) ∧ W.cell? ⟨R + 1 + 1, 6, none⟩ = some (.string a6) ∧
  W.cell? ⟨R + 1 + 1 + 1, 0, none⟩ = some (.int .i64 nx.epoch) ∧ W.cell? ⟨R + 1 + 1 + 1, 1, none⟩ = some (.int .i64 nx.readers) ∧ W.cell? ⟨R + 1 + 1 + 1, 2, none⟩ = some (.int .i64 nx.writers) ∧ W.cell? ⟨R + 1 + 1 + 1, 3, none⟩ = some (.string nx.bytes) ∧
  W.cell? ⟨R + 1 + 1 + 1 + 1, 0, none⟩ = some (.int .i64 gt.epoch) ∧ W.cell? ⟨R + 1 + 1 + 1 + 1, 1, none⟩ = some (.int .i64 gt.readers) ∧ W.cell? ⟨R + 1 + 1 + 1 + 1, 2, none⟩ = some (.int .i64 gt.writers) ∧ W.cell? ⟨R + 1 + 1 + 1 + 1, 3, none⟩ = some (.string gt.bytes)
theorem SmJ.reads {R : Nat} {opc : Array Value} {p nx gt : PipeT} {w W : World} {a0 a1 : Int} {a2 : ByteArray} {a3 a4 a5 : Int} {a6 : ByteArray} (h : SmJ R opc #[.int .i64 a0, .int .i64 a1, .string a2, .int .i64 a3, .int .i64 a4, .int .i64 a5, .string a6] p nx gt w W) : SmC R a0 a1 a2 a3 a4 a5 a6 nx gt W :=
  ⟨h.cellR 0 rfl, h.cellR 1 rfl, h.cellR 2 rfl, h.cellR 3 rfl, h.cellR 4 rfl, h.cellR 5 rfl, h.cellR 6 rfl, h.cellN 0 rfl, h.cellN 1 rfl, h.cellN 2 rfl, h.cellN 3 rfl, h.cellG 0 rfl, h.cellG 1 rfl, h.cellG 2 rfl, h.cellG 3 rfl⟩
def SmP (w : World) (nx : PipeT) (r : Ending) (w' : World) : Prop := r = .returned (.tuple #[.agg #[.int .i64 nx.epoch, .int .i64 nx.readers, .int .i64 nx.writers, .string nx.bytes], .bool true]) ∧ Below w.heap.size w w'

set_option maxRecDepth 100000 in
theorem run_equal_res (w : World) (a0 a1 : Int) (a2 : ByteArray) (a3 a4 a5 : Int) (a6 : ByteArray) (b0 b1 : Int) (b2 : ByteArray) (b3 b4 b5 : Int) (b6 : ByteArray) : (Op.equal 83 (.agg #[.int .i64 a0, .int .i64 a1, .string a2, .int .i64 a3, .int .i64 a4, .int .i64 a5, .string a6]) (.agg #[.int .i64 b0, .int .i64 b1, .string b2, .int .i64 b3, .int .i64 b4, .int .i64 b5, .string b6])).run Tryz.prog w = .ok (decide ((a0, a1, a2, a3, a4, a5, a6) = (b0, b1, b2, b3, b4, b5, b6))) w := by
  have hu : Tryz.prog.underlying 83 = some (.struct (Tryz.prog.fieldsOf 83)) := by kernel_rfl
  have hst : Tryz.prog.stoodInHeld 83 = false := by kernel_rfl
  simp only [Op.equal, Op.maxDepth]
  rw [run_equalIn_struct w 9999 _ _ _ hu hst]
  simp [go_sem, Tryz.underlying25, Tryz.underlying3, Tryz.underlying9]
  have hb : ∀ x y : ByteArray, x.toList = y.toList ↔ x = y := fun x y => by have := str_beq x y; rw [Bool.eq_iff_iff] at this; simpa using this
  simp only [hb]
  by_cases h0 : a0 = b0
  case neg => simp [h0]
  by_cases h1 : a1 = b1
  case neg => simp [h1]
  by_cases h2 : a2 = b2
  case neg => simp [h2]
  by_cases h3 : a3 = b3
  case neg => simp [h3]
  by_cases h4 : a4 = b4
  case neg => simp [h4]
  by_cases h5 : a5 = b5
  case neg => simp [h5]
  by_cases h6 : a6 = b6
  case neg => simp [h6]
  simp [h0, h1, h2, h3, h4, h5, h6]
def sameRB (a b : Int × Int × ByteArray × Int × Int × Int × ByteArray) : Bool := decide (a = b)
theorem run_eql_res (w : World) (a0 a1 : Int) (a2 : ByteArray) (a3 a4 a5 : Int) (a6 : ByteArray) (b0 b1 : Int) (b2 : ByteArray) (b3 b4 b5 : Int) (b6 : ByteArray) : (binOp .eql 83 (.agg #[.int .i64 a0, .int .i64 a1, .string a2, .int .i64 a3, .int .i64 a4, .int .i64 a5, .string a6]) (.agg #[.int .i64 b0, .int .i64 b1, .string b2, .int .i64 b3, .int .i64 b4, .int .i64 b5, .string b6])).run Tryz.prog w = .ok (.bool (sameRB (a0, a1, a2, a3, a4, a5, a6) (b0, b1, b2, b3, b4, b5, b6))) w := by
  have h := run_equal_res w a0 a1 a2 a3 a4 a5 a6 b0 b1 b2 b3 b4 b5 b6
  simp only [binOp]
  simp [h, sameRB]
end Go.Proofs.YtemmeopaihmlcaaGreatDoor
