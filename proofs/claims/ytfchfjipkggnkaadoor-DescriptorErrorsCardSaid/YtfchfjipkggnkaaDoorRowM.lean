/- A block known whole as a list of cells: loads and stores of ranges. -/
import Derived.Test.YtfchfjipkggnkaaDoorMem
import Derived.Laws.CopyRow
import Derived.Laws.Rows
import Derived.Deep.MidRow
import Derived.RangeFuncRecord
namespace Go.Proofs.YtfchfjipkggnkaaDoor
open Go.RowKit

/-- The cells l lie in the block X. -/
def RowIs (w : World) (X : Nat) (T : TypeId) (l : List Value) : Prop := w.heap[X]? = some (.cells l.toArray T (0, 0))
/-- cs in the place of as many cells from o on. -/
def spl (l : List Value) (o : Nat) (cs : List Value) : List Value := l.take o ++ cs ++ l.drop (o + cs.length)
theorem spl_len {l cs : List Value} {o : Nat} (h : o + cs.length ≤ l.length) : (spl l o cs).length = l.length := by
  simp [spl]; omega
theorem spl_app (a b c d : List Value) (h : c.length = b.length) : spl (a ++ b ++ d) a.length c = a ++ c ++ d := by
  unfold spl
  have h1 : (a ++ b ++ d).take a.length = a := by rw [List.append_assoc, List.take_left]
  have h2 : (a ++ b ++ d).drop (a.length + c.length) = d := by rw [h, show a.length + b.length = (a ++ b).length by simp, List.drop_left]
  rw [h1, h2]
section
variable {w w' : World} {X T : Nat} {l : List Value}
theorem RowIs.later (h : RowIs w X T l) (hb : Below w.heap.size w w') : RowIs w' X T l := (hb.block _ (lt_of_heap h)).trans h
theorem RowIs.kept (h : RowIs w X T l) (hk : w'.heap[X]? = w.heap[X]?) : RowIs w' X T l := hk.trans h
theorem RowIs.free (h : RowIs w X T l) (i : Nat) : w.frozen? ⟨X, i, none⟩ = false := frozen_of_heap h i
theorem RowIs.lt (h : RowIs w X T l) : X < w.heap.size := lt_of_heap h
theorem RowIs.cell (h : RowIs w X T l) {i : Nat} {v : Value} (hv : l[i]? = some v) : w.cell? ⟨X, i, none⟩ = some v := (cell_of_heap h i).trans (by simpa using hv)
theorem RowIs.setRow (h : RowIs w X T l) (l' : List Value) : RowIs (w.setRow X l'.toArray) X T l' := setRow_heap w X _ _ _ _ h
theorem RowIs.set (h : RowIs w X T l) (i : Nat) (v : Value) : RowIs (w.setCell ⟨X, i, none⟩ v) X T (l.set i v) := by
  have := heap_setCell_same h i v
  refine this.trans (congrArg (fun A => some (Obj.cells A T (0, 0))) ?_)
  simp
theorem RowIs.other (h : RowIs w X T l) {Y : Nat} (hne : Y ≠ X) (cs : Array Value) : RowIs (w.setRow Y cs) X T l := (setRow_other w Y X cs (Ne.symm hne)).trans h
theorem RowIs.other_set (h : RowIs w X T l) {Y : Nat} (hne : Y ≠ X) (i : Nat) (v : Value) : RowIs (w.setCell ⟨Y, i, none⟩ v) X T l := (Below.heap_setCell w ⟨Y, i, none⟩ v X (Ne.symm hne)).trans h
/-- A store as a walk leaves it. -/
theorem RowIs.store (h : RowIs w X T l) (P : Program) {o : Nat} {cs : List Value} (hl : o + cs.length ≤ l.length) (h1 : ∀ v ∈ cs, v.oneCell' = true) :
    (storeCells ⟨X, o, none⟩ cs).run P w = .ok () (w.setRow X (spl l o cs).toArray) := by
  have := run_storeCells_at P X o T cs 0 l.toArray w h (by simpa using hl) h1
  simpa [spl] using this
theorem RowIs.range (h : RowIs w X T l) {o : Nat} {cs : List Value} (hl : (l.drop o).take cs.length = cs) : w.rangeAt X o cs := fun j v hv => by
  have hj : j < cs.length := (List.getElem?_eq_some_iff.1 hv).1
  refine h.cell ?_
  rw [← hl, List.getElem?_take_of_lt hj, List.getElem?_drop] at hv
  exact hv
end
theorem new_row (w : World) (T : TypeId) (l : List Value) : RowIs (w.alloc (.cells l.toArray T)) w.heap.size T l := World.alloc_heap_new w _
end Go.Proofs.YtfchfjipkggnkaaDoor
