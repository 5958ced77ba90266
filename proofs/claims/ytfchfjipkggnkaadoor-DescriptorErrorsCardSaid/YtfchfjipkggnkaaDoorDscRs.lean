/- Law 31: a result (a table, something open, a number, an error) as cells, in a block. -/
import Derived.Test.YtfchfjipkggnkaaDoorDscT
import Derived.Test.YtfchfjipkggnkaaDoorDscH
import Derived.Test.YtfchfjipkggnkaaDoorRowM
namespace Go.Proofs.YtfchfjipkggnkaaDoor
open Go.RowKit

def resC (r : ResD) : List Value := tabC r.T ++ (opnCells r.O ++ [.int .i64 r.N, .int .i64 r.E])
def resDV (r : ResD) : Value := .agg (resC r).toArray
theorem tabC_128 {t : List OpnT} (h : t.length = 16) : (tabC t).length = 128 := by rw [tabC_len, h]
theorem resC_len {r : ResD} (h : r.T.length = 16) : (resC r).length = 138 := by
  simp [resC, opnCells, tabC_128 h]
theorem opnC_one (o : OpnT) : ∀ u ∈ opnCells o, u.oneCell' = true := by
  intro u hu
  simp only [opnCells, List.mem_cons, List.not_mem_nil, or_false] at hu
  rcases hu with rfl | rfl | rfl | rfl | rfl | rfl | rfl | rfl <;> rfl
theorem resC_one (r : ResD) : ∀ u ∈ resC r, u.oneCell' = true := by
  intro u hu
  simp only [resC, List.mem_append, List.mem_cons, List.not_mem_nil, or_false] at hu
  rcases hu with hu | hu | rfl | rfl
  · exact tabC_one _ u hu
  · exact opnC_one _ u hu
  · rfl
  · rfl
set_option maxRecDepth 100000 in
theorem zero_res : Tryd.zeroCells62 = (resC (errD 0)).toArray := by kernel_rfl
set_option maxRecDepth 100000 in
theorem infoRes : (Tryd.prog.info? 62).map (·.size) = some 138 := by kernel_rfl
/-- A result lies in a block. -/
def ResAt (w : World) (X : Nat) (r : ResD) : Prop := RowIs w X 62 (resC r) ∧ r.T.length = 16
def setT (r : ResD) (t : List OpnT) : ResD := ⟨t, r.O, r.N, r.E⟩
def setO (r : ResD) (o : OpnT) : ResD := ⟨r.T, o, r.N, r.E⟩
def setN (r : ResD) (n : Int) : ResD := ⟨r.T, r.O, n, r.E⟩
def setE (r : ResD) (e : Nat) : ResD := ⟨r.T, r.O, r.N, e⟩
theorem set_right (a b : List Value) {n : Nat} (h : a.length = n) (j : Nat) (v : Value) : (a ++ b).set (n + j) v = a ++ b.set j v := by
  rw [List.set_append_right _ _ (by omega), show n + j - a.length = j by omega]
section
variable {w w' : World} {X : Nat} {r : ResD}
theorem ResAt.later (h : ResAt w X r) (hb : Below w.heap.size w w') : ResAt w' X r := ⟨h.1.later hb, h.2⟩
theorem ResAt.kept (h : ResAt w X r) (hk : w'.heap[X]? = w.heap[X]?) : ResAt w' X r := ⟨h.1.kept hk, h.2⟩
theorem ResAt.free (h : ResAt w X r) (i : Nat) : w.frozen? ⟨X, i, none⟩ = false := h.1.free i
theorem ResAt.setN (h : ResAt w X r) (n : Int) : ResAt (w.setCell ⟨X, 136, none⟩ (.int .i64 n)) X (setN r n) := by
  refine ⟨?_, h.2⟩
  have := h.1.set 136 (.int .i64 n)
  rw [show (resC r).set 136 (.int .i64 n) = resC (Go.Proofs.YtfchfjipkggnkaaDoor.setN r n) from set_right _ _ (tabC_128 h.2) 8 _] at this
  exact this
theorem ResAt.setE (h : ResAt w X r) (e : Nat) : ResAt (w.setCell ⟨X, 137, none⟩ (.int .i64 e)) X (setE r e) := by
  refine ⟨?_, h.2⟩
  have := h.1.set 137 (.int .i64 e)
  rw [show (resC r).set 137 (.int .i64 e) = resC (Go.Proofs.YtfchfjipkggnkaaDoor.setE r e) from set_right _ _ (tabC_128 h.2) 9 _] at this
  exact this
theorem ResAt.setO (h : ResAt w X r) (o : OpnT) :
    ResAt ((((((((w.setCell ⟨X, 128, none⟩ (.int .i64 o.kd)).setCell ⟨X, 129, none⟩ (.string o.mak)).setCell ⟨X, 130, none⟩ (.int .i64 o.bn)).setCell ⟨X, 131, none⟩ (.int .i64 o.num)).setCell ⟨X, 132, none⟩ (.int .i64 o.off)).setCell ⟨X, 133, none⟩ (.bool o.rd)).setCell ⟨X, 134, none⟩ (.bool o.wr)).setCell ⟨X, 135, none⟩ (.bool o.ap)) X (setO r o) := by
  refine ⟨?_, h.2⟩
  have := (((((((h.1.set 128 (.int .i64 o.kd)).set 129 (.string o.mak)).set 130 (.int .i64 o.bn)).set 131 (.int .i64 o.num)).set 132 (.int .i64 o.off)).set 133 (.bool o.rd)).set 134 (.bool o.wr)).set 135 (.bool o.ap)
  have hl := tabC_128 h.2
  unfold resC at this
  rw [set_right _ _ hl 0, set_right _ _ hl 1, set_right _ _ hl 2, set_right _ _ hl 3, set_right _ _ hl 4, set_right _ _ hl 5, set_right _ _ hl 6, set_right _ _ hl 7] at this
  exact this
theorem ResAt.setRow (h : ResAt w X r) {r' : ResD} (h' : r'.T.length = 16) : ResAt (w.setRow X (resC r').toArray) X r' := ⟨h.1.setRow _, h'⟩
/-- A whole table into the first field. -/
theorem ResAt.storeT (h : ResAt w X r) {t : List OpnT} (ht : t.length = 16) : (storeCells ⟨X, 0, none⟩ (tabA t).toList).run Tryd.prog w = .ok () (w.setRow X (resC (setT r t)).toArray) := by
  have e : (tabA t).toList = tabC t := by simp [tabA]
  have hl := resC_len h.2
  have := h.1.store Tryd.prog (o := 0) (cs := tabC t) (by rw [tabC_128 ht, hl]; omega) (tabC_one t)
  rw [e, this]
  have e2 : spl (resC r) 0 (tabC t) = resC (setT r t) := by
    have := spl_app [] (tabC r.T) (tabC t) (opnCells r.O ++ [.int .i64 r.N, .int .i64 r.E]) (by rw [tabC_128 ht, tabC_128 h.2])
    simpa [resC, setT] using this
  rw [e2]
/-- A whole result. -/
theorem ResAt.store (h : ResAt w X r) {r' : ResD} (h' : r'.T.length = 16) : (storeCells ⟨X, 0, none⟩ (resC r')).run Tryd.prog w = .ok () (w.setRow X (resC r').toArray) := by
  have := h.1.store Tryd.prog (o := 0) (cs := resC r') (by rw [resC_len h.2, resC_len h']; omega) (resC_one r')
  rw [this]
  have e2 : spl (resC r) 0 (resC r') = resC r' := by
    have := spl_app [] (resC r) (resC r') [] (by rw [resC_len h.2, resC_len h'])
    simpa using this
  rw [e2]
theorem wp_load_res {op : Oper} {a : Act} {w : World} {K : Act → World → Prop} {Q : Exit → Act → World → Prop} (x : Operand) (ho : op.op = .load 62 x) (X : Nat) (hx : a.eval x = .pointer (some ⟨X, 0, none⟩)) {r : ResD} (h : ResAt w X r)
    (hK : K (a.put op.dst (resDV r)) w) : op.wp Tryd.prog a w K Q :=
  wp_load_mid 62 x ho X 0 hx (resC r) _ (h.1.range (by rw [List.drop_zero, List.take_of_length_le (Nat.le_refl _)])) Tryd.underlying62 rfl (by rw [resC_len h.2]; exact infoRes) hK
theorem results_res {fn : Func} {p : Tmp} (h : fn.results = #[.cell p 62]) (tmps : Array Value) (w : World) (X : Nat) (hp : tmps.getD p undef = .pointer (some ⟨X, 0, none⟩)) (hr : ResAt w X r) :
    (results fn tmps).run Tryd.prog w = .ok (resDV r) w :=
  results_cell_row h tmps w X _ _ _ _ hp hr.1 Tryd.underlying62 rfl (by rw [List.size_toArray, resC_len hr.2]; exact infoRes)
end
theorem new_res (w : World) : ResAt (w.alloc (.cells Tryd.zeroCells62 62)) w.heap.size (errD 0) := ⟨(World.alloc_heap_new w _).trans (by rw [zero_res]), rfl⟩
set_option maxRecDepth 100000 in
theorem field_res (w : World) {r : ResD} (h : r.T.length = 16) : (Instr.field 62 (resDV r) 3).run Tryd.prog w = .ok (.int .i64 r.E) w := by
  have hl := resC_len h
  have hg : (resC r)[137]? = some (.int .i64 r.E) := by
    unfold resC
    rw [List.getElem?_append_right (by rw [tabC_128 h]; omega), tabC_128 h]
    rfl
  simp [Instr.field, asAgg, go_sem, resDV, hg]
end Go.Proofs.YtfchfjipkggnkaaDoor
