/- A block known whole as a list of cells: loads and stores of ranges. Law 31: a result (a table, something open, a number, an error) as cells, in a block. Law 31: names; an operation in memory. (printed by wip/gen_dscpn.py) Law 31: comparison of a result with itself. -/
import Derived.Test.YtfchfjipkggnkaaGreatDoorMem
import Derived.Test.YtfchfjipkggnkaaGreatDoorDscT
import Derived.Test.YtfchfjipkggnkaaGreatDoorDscH
import Derived.Test.YtfchfjipkggnkaaGreatDoorDscD
import Derived.Laws.CopyRow
import Derived.Laws.Rows
import Derived.Deep.MidRow
import Derived.RangeFuncRecord
import Derived.Deep.RegionHeld3
namespace Go.Proofs.YtfchfjipkggnkaaGreatDoor
open Go.RowKit

/-- The cells l lie in the block X. -/
def RowIs (w : World) (X : Nat) (T : TypeId) (l : List Value) : Prop := w.heap[X]? = some (.cells l.toArray T (0, 0))
/-- cs in the place of as many cells from o on. -/
def spl (l : List Value) (o : Nat) (cs : List Value) : List Value := l.take o ++ cs ++ l.drop (o + cs.length)
theorem spl_len {l cs : List Value} {o : Nat} (h : o + cs.length ≤ l.length) : (spl l o cs).length = l.length := by
  simp [spl]; omega
theorem spl_app (a b c d : List Value) (h : c.length = b.length) : spl (a ++ b ++ d) a.length c = a ++ c ++ d := by
  unfold spl
  have h1 : (a ++ b ++ d).take a.length = a := by rw [List.append_assoc, List.take_left]
  have h2 : (a ++ b ++ d).drop (a.length + c.length) = d := by rw [h, show a.length + b.length = (a ++ b).length by simp, List.drop_left]
  rw [h1, h2]
section
variable {w w' : World} {X T : Nat} {l : List Value}
theorem RowIs.later (h : RowIs w X T l) (hb : Below w.heap.size w w') : RowIs w' X T l := (hb.block _ (lt_of_heap h)).trans h
theorem RowIs.kept (h : RowIs w X T l) (hk : w'.heap[X]? = w.heap[X]?) : RowIs w' X T l := hk.trans h
theorem RowIs.free (h : RowIs w X T l) (i : Nat) : w.frozen? ⟨X, i, none⟩ = false := frozen_of_heap h i
theorem RowIs.lt (h : RowIs w X T l) : X < w.heap.size := lt_of_heap h
theorem RowIs.cell (h : RowIs w X T l) {i : Nat} {v : Value} (hv : l[i]? = some v) : w.cell? ⟨X, i, none⟩ = some v := (cell_of_heap h i).trans (by simpa using hv)
theorem RowIs.setRow (h : RowIs w X T l) (l' : List Value) : RowIs (w.setRow X l'.toArray) X T l' := setRow_heap w X _ _ _ _ h
theorem RowIs.set (h : RowIs w X T l) (i : Nat) (v : Value) : RowIs (w.setCell ⟨X, i, none⟩ v) X T (l.set i v) := by
  have := heap_setCell_same h i v
  refine this.trans (congrArg (fun A => some (Obj.cells A T (0, 0))) ?_)
  simp
theorem RowIs.other (h : RowIs w X T l) {Y : Nat} (hne : Y ≠ X) (cs : Array Value) : RowIs (w.setRow Y cs) X T l := (setRow_other w Y X cs (Ne.symm hne)).trans h
theorem RowIs.other_set (h : RowIs w X T l) {Y : Nat} (hne : Y ≠ X) (i : Nat) (v : Value) : RowIs (w.setCell ⟨Y, i, none⟩ v) X T l := (Below.heap_setCell w ⟨Y, i, none⟩ v X (Ne.symm hne)).trans h
/-- A store as a walk leaves it. -/
theorem RowIs.store (h : RowIs w X T l) (P : Program) {o : Nat} {cs : List Value} (hl : o + cs.length ≤ l.length) (h1 : ∀ v ∈ cs, v.oneCell' = true) :
    (storeCells ⟨X, o, none⟩ cs).run P w = .ok () (w.setRow X (spl l o cs).toArray) := by
  have := run_storeCells_at P X o T cs 0 l.toArray w h (by simpa using hl) h1
  simpa [spl] using this
theorem RowIs.range (h : RowIs w X T l) {o : Nat} {cs : List Value} (hl : (l.drop o).take cs.length = cs) : w.rangeAt X o cs := fun j v hv => by
  have hj : j < cs.length := (List.getElem?_eq_some_iff.1 hv).1
  refine h.cell ?_
  rw [← hl, List.getElem?_take_of_lt hj, List.getElem?_drop] at hv
  exact hv
end
theorem new_row (w : World) (T : TypeId) (l : List Value) : RowIs (w.alloc (.cells l.toArray T)) w.heap.size T l := World.alloc_heap_new w _
end Go.Proofs.YtfchfjipkggnkaaGreatDoor

namespace Go.Proofs.YtfchfjipkggnkaaGreatDoor
open Go.RowKit

def resC (r : ResD) : List Value := tabC r.T ++ (opnCells r.O ++ [.int .i64 r.N, .int .i64 r.E])
def resDV (r : ResD) : Value := .agg (resC r).toArray
theorem tabC_128 {t : List OpnT} (h : t.length = 16) : (tabC t).length = 128 := by rw [tabC_len, h]
theorem resC_len {r : ResD} (h : r.T.length = 16) : (resC r).length = 138 := by
  simp [resC, opnCells, tabC_128 h]
theorem opnC_one (o : OpnT) : ∀ u ∈ opnCells o, u.oneCell' = true := by
  intro u hu
  simp only [opnCells, List.mem_cons, List.not_mem_nil, or_false] at hu
  rcases hu with rfl | rfl | rfl | rfl | rfl | rfl | rfl | rfl <;> rfl
theorem resC_one (r : ResD) : ∀ u ∈ resC r, u.oneCell' = true := by
  intro u hu
  simp only [resC, List.mem_append, List.mem_cons, List.not_mem_nil, or_false] at hu
  rcases hu with hu | hu | rfl | rfl
  · exact tabC_one _ u hu
  · exact opnC_one _ u hu
  · rfl
  · rfl
set_option maxRecDepth 100000 in
theorem zero_res : Tryz.zeroCells52 = (resC (errD 0)).toArray := by kernel_rfl
set_option maxRecDepth 100000 in
theorem infoRes : (Tryz.prog.info? 52).map (·.size) = some 138 := by kernel_rfl
/-- A result lies in a block. -/
def ResAt (w : World) (X : Nat) (r : ResD) : Prop := RowIs w X 52 (resC r) ∧ r.T.length = 16
def setT (r : ResD) (t : List OpnT) : ResD := ⟨t, r.O, r.N, r.E⟩
def setO (r : ResD) (o : OpnT) : ResD := ⟨r.T, o, r.N, r.E⟩
def setN (r : ResD) (n : Int) : ResD := ⟨r.T, r.O, n, r.E⟩
def setE (r : ResD) (e : Nat) : ResD := ⟨r.T, r.O, r.N, e⟩
theorem set_right (a b : List Value) {n : Nat} (h : a.length = n) (j : Nat) (v : Value) : (a ++ b).set (n + j) v = a ++ b.set j v := by
  rw [List.set_append_right _ _ (by omega), show n + j - a.length = j by omega]
section
variable {w w' : World} {X : Nat} {r : ResD}
theorem ResAt.later (h : ResAt w X r) (hb : Below w.heap.size w w') : ResAt w' X r := ⟨h.1.later hb, h.2⟩
theorem ResAt.kept (h : ResAt w X r) (hk : w'.heap[X]? = w.heap[X]?) : ResAt w' X r := ⟨h.1.kept hk, h.2⟩
theorem ResAt.free (h : ResAt w X r) (i : Nat) : w.frozen? ⟨X, i, none⟩ = false := h.1.free i
theorem ResAt.setN (h : ResAt w X r) (n : Int) : ResAt (w.setCell ⟨X, 136, none⟩ (.int .i64 n)) X (setN r n) := by
  refine ⟨?_, h.2⟩
  have := h.1.set 136 (.int .i64 n)
  rw [show (resC r).set 136 (.int .i64 n) = resC (Go.Proofs.YtfchfjipkggnkaaGreatDoor.setN r n) from set_right _ _ (tabC_128 h.2) 8 _] at this
  exact this
theorem ResAt.setE (h : ResAt w X r) (e : Nat) : ResAt (w.setCell ⟨X, 137, none⟩ (.int .i64 e)) X (setE r e) := by
  refine ⟨?_, h.2⟩
  have := h.1.set 137 (.int .i64 e)
  rw [show (resC r).set 137 (.int .i64 e) = resC (Go.Proofs.YtfchfjipkggnkaaGreatDoor.setE r e) from set_right _ _ (tabC_128 h.2) 9 _] at this
  exact this
theorem ResAt.setO (h : ResAt w X r) (o : OpnT) :
    ResAt ((((((((w.setCell ⟨X, 128, none⟩ (.int .i64 o.kd)).setCell ⟨X, 129, none⟩ (.string o.mak)).setCell ⟨X, 130, none⟩ (.int .i64 o.bn)).setCell ⟨X, 131, none⟩ (.int .i64 o.num)).setCell ⟨X, 132, none⟩ (.int .i64 o.off)).setCell ⟨X, 133, none⟩ (.bool o.rd)).setCell ⟨X, 134, none⟩ (.bool o.wr)).setCell ⟨X, 135, none⟩ (.bool o.ap)) X (setO r o) := by
  refine ⟨?_, h.2⟩
  have := (((((((h.1.set 128 (.int .i64 o.kd)).set 129 (.string o.mak)).set 130 (.int .i64 o.bn)).set 131 (.int .i64 o.num)).set 132 (.int .i64 o.off)).set 133 (.bool o.rd)).set 134 (.bool o.wr)).set 135 (.bool o.ap)
  have hl := tabC_128 h.2
  unfold resC at this
  rw [set_right _ _ hl 0, set_right _ _ hl 1, set_right _ _ hl 2, set_right _ _ hl 3, set_right _ _ hl 4, set_right _ _ hl 5, set_right _ _ hl 6, set_right _ _ hl 7] at this
  exact this
theorem ResAt.setRow (h : ResAt w X r) {r' : ResD} (h' : r'.T.length = 16) : ResAt (w.setRow X (resC r').toArray) X r' := ⟨h.1.setRow _, h'⟩
/-- A whole table into the first field. -/
theorem ResAt.storeT (h : ResAt w X r) {t : List OpnT} (ht : t.length = 16) : (storeCells ⟨X, 0, none⟩ (tabA t).toList).run Tryz.prog w = .ok () (w.setRow X (resC (setT r t)).toArray) := by
  have e : (tabA t).toList = tabC t := by simp [tabA]
  have hl := resC_len h.2
  have := h.1.store Tryz.prog (o := 0) (cs := tabC t) (by rw [tabC_128 ht, hl]; omega) (tabC_one t)
  rw [e, this]
  have e2 : spl (resC r) 0 (tabC t) = resC (setT r t) := by
    have := spl_app [] (tabC r.T) (tabC t) (opnCells r.O ++ [.int .i64 r.N, .int .i64 r.E]) (by rw [tabC_128 ht, tabC_128 h.2])
    simpa [resC, setT] using this
  rw [e2]
/-- A whole result. -/
theorem ResAt.store (h : ResAt w X r) {r' : ResD} (h' : r'.T.length = 16) : (storeCells ⟨X, 0, none⟩ (resC r')).run Tryz.prog w = .ok () (w.setRow X (resC r').toArray) := by
  have := h.1.store Tryz.prog (o := 0) (cs := resC r') (by rw [resC_len h.2, resC_len h']; omega) (resC_one r')
  rw [this]
  have e2 : spl (resC r) 0 (resC r') = resC r' := by
    have := spl_app [] (resC r) (resC r') [] (by rw [resC_len h.2, resC_len h'])
    simpa using this
  rw [e2]
theorem wp_load_res {op : Oper} {a : Act} {w : World} {K : Act → World → Prop} {Q : Exit → Act → World → Prop} (x : Operand) (ho : op.op = .load 52 x) (X : Nat) (hx : a.eval x = .pointer (some ⟨X, 0, none⟩)) {r : ResD} (h : ResAt w X r)
    (hK : K (a.put op.dst (resDV r)) w) : op.wp Tryz.prog a w K Q :=
  wp_load_mid 52 x ho X 0 hx (resC r) _ (h.1.range (by rw [List.drop_zero, List.take_of_length_le (Nat.le_refl _)])) Tryz.underlying52 rfl (by rw [resC_len h.2]; exact infoRes) hK
theorem results_res {fn : Func} {p : Tmp} (h : fn.results = #[.cell p 52]) (tmps : Array Value) (w : World) (X : Nat) (hp : tmps.getD p undef = .pointer (some ⟨X, 0, none⟩)) (hr : ResAt w X r) :
    (results fn tmps).run Tryz.prog w = .ok (resDV r) w :=
  results_cell_row h tmps w X _ _ _ _ hp hr.1 Tryz.underlying52 rfl (by rw [List.size_toArray, resC_len hr.2]; exact infoRes)
end
theorem new_res (w : World) : ResAt (w.alloc (.cells Tryz.zeroCells52 52)) w.heap.size (errD 0) := ⟨(World.alloc_heap_new w _).trans (by rw [zero_res]), rfl⟩
set_option maxRecDepth 100000 in
theorem field_res (w : World) {r : ResD} (h : r.T.length = 16) : (Instr.field 52 (resDV r) 3).run Tryz.prog w = .ok (.int .i64 r.E) w := by
  have hl := resC_len h
  have hg : (resC r)[137]? = some (.int .i64 r.E) := by
    unfold resC
    rw [List.getElem?_append_right (by rw [tabC_128 h]; omega), tabC_128 h]
    rfl
  simp [Instr.field, asAgg, go_sem, resDV, hg]
end Go.Proofs.YtfchfjipkggnkaaGreatDoor

namespace Go.Proofs.YtfchfjipkggnkaaGreatDoor
open Go.RowKit

def nmCells : List Value := [.string ⟨#[49]⟩, .string ⟨#[49, 46, 50]⟩, .string ⟨#[55]⟩, .string ⟨#[120]⟩]
theorem nmCells_at {k : Nat} (h : k < 4) : nmCells[k]? = some (.string (nmD k)) := by
  rcases (by omega : k = 0 ∨ k = 1 ∨ k = 2 ∨ k = 3) with rfl | rfl | rfl | rfl <;> rfl
theorem names31_any (w : World) : Calls Tryz.prog 11 #[] w fun r w' => r = .returned (.slice (some ⟨w.heap.size, 0, none⟩) 4 4) ∧ Below w.heap.size w w' ∧ RowIs w' w.heap.size 30 nmCells := by
  have HB : Hid (∀ o, Below w.heap.size w (w.alloc o)) := fun o => (Below.refl _ _).alloc (Nat.le_refl _) o
  have HR : Hid (RowIs (w.alloc (.cells #[.string ⟨#[49]⟩, .string ⟨#[49, 46, 50]⟩, .string ⟨#[55]⟩, .string ⟨#[120]⟩] 30)) w.heap.size 30 nmCells) := new_row w _ nmCells
  go_enter Tryz.func11, Tryz.ntmps11
  go_wp2
  go_ret
  exact ⟨rfl, HB.out _, HR.out⟩
/-- An operation as cells. -/
def opC (o : OpD) : List Value := [.int .u8 o.kd, .int .u8 o.who, .int .u8 o.to, .int .i64 o.fd, .int .i64 o.n, .int .i64 o.o.kd, .string o.o.mak, .int .i64 o.o.bn, .int .i64 o.o.num, .int .i64 o.o.off, .bool o.o.rd, .bool o.o.wr, .bool o.o.ap]
def opDV (o : OpD) : Value := .agg (opC o).toArray
theorem wpAnyH_monoN {P : Program} {md : Region.Mode} {ops : Array Oper} {Q : Exit → Act → World → Prop} {S1 S2 : World → Prop} (hS : ∀ w, S2 w → S1 w) : ∀ (fuel : Nat) (listed : Array Bool) (a : Act) (w : World), wpAnyH P md ops Q S2 fuel listed a w → wpAnyH P md ops Q S1 fuel listed a w
  | 0, _, _, _, h => h
  | fuel + 1, _, _, _, h => ⟨h.1, fun i hi => wpOp_mono (fun a' w' h' => ⟨hS _ h'.1, wpAnyH_monoN hS fuel _ a' w' h'.2⟩) (h.2 i hi)⟩
theorem cell_far (w : World) {X Y : Nat} (h : Y ≠ X) (i j : Nat) (v : Value) : (w.setCell ⟨X, i, none⟩ v).cell? ⟨Y, j, none⟩ = w.cell? ⟨Y, j, none⟩ := World.cell?_of_block (Below.heap_setCell w ⟨X, i, none⟩ v Y h)
theorem resC_at {r : ResD} (h : r.T.length = 16) {j : Nat} {v : Value} (hv : (opnCells r.O ++ [.int .i64 r.N, .int .i64 r.E])[j]? = some v) : (resC r)[128 + j]? = some v := by
  unfold resC
  rw [List.getElem?_append_right (by rw [tabC_128 h]; omega), tabC_128 h, show 128 + j - 128 = j by omega]
  exact hv
end Go.Proofs.YtfchfjipkggnkaaGreatDoor

namespace Go.Proofs.YtfchfjipkggnkaaGreatDoor
open Go.RowKit

theorem eqItems_self (w : World) {t : List OpnT} (ht : t.length = 16) (d : Nat) : ∀ is : List Nat, (∀ j ∈ is, j < 16) → (Op.eqItems (d + 4) 34 8 (tabA t) (tabA t) is).run Tryz.prog w = .ok true w
  | [], _ => rfl
  | j :: is, h => by
    have hj := h j (by simp)
    obtain ⟨a, ha⟩ := ent_some ht hj
    have ih := eqItems_self w ht d is (fun i hi => h i (by simp [hi]))
    simp only [Op.eqItems, Sem.run_bind, part_tab t ha, Result.andThen_ok, equal_opnA d w a a, sameO_self]
    simpa using ih
theorem equal_tab_self (w : World) {t : List OpnT} (ht : t.length = 16) (d : Nat) : (Op.equalIn (d + 5) 36 (.agg (tabA t)) (.agg (tabA t))).run Tryz.prog w = .ok true w := by
  have hu : Tryz.prog.underlying 36 = some (.array 16 34) := Tryz.underlying36
  have hc : Tryz.prog.cellsOf 34 = 8 := by kernel_rfl
  have hi := infoOpn
  cases hq : Tryz.prog.info? 34 with
  | none => rw [hq] at hi; cases hi
  | some i =>
    rw [run_equalIn_array (w := w) (d + 4) (tabA t) (tabA t) hu hq, hc]
    exact eqItems_self w ht d _ (fun j hj => by simpa using hj)
set_option maxRecDepth 100000 in
set_option maxHeartbeats 1600000 in
theorem run_equal_res (w : World) {r : ResD} (h : r.T.length = 16) : (Op.equalIn 10000 52 (resDV r) (resDV r)).run Tryz.prog w = .ok true w := by
  have hu : Tryz.prog.underlying 52 = some (.struct (Tryz.prog.fieldsOf 52)) := by kernel_rfl
  have hst : Tryz.prog.stoodInHeld 52 = false := by kernel_rfl
  have h0 := resC_at h (j := 0) rfl
  have h1 := resC_at h (j := 1) rfl
  have h2 := resC_at h (j := 2) rfl
  have h3 := resC_at h (j := 3) rfl
  have h4 := resC_at h (j := 4) rfl
  have h5 := resC_at h (j := 5) rfl
  have h6 := resC_at h (j := 6) rfl
  have h7 := resC_at h (j := 7) rfl
  have h8 := resC_at h (j := 8) rfl
  have h9 := resC_at h (j := 9) rfl
  have ht : (List.take 128 (resC r)).toArray = tabA r.T := by
    unfold resC tabA
    rw [← tabC_128 h, List.take_left]
  have hT := equal_tab_self w h 9994
  unfold resDV
  rw [run_equalIn_struct w 9999 _ _ _ hu hst]
  simp only [Nat.add_zero, Nat.reduceAdd] at h0 h1 h2 h3 h4 h5 h6 h7 h8 h9 hT
  simp [go_sem, Tryz.underlying52, Tryz.underlying34, Tryz.underlying32, Tryz.underlying3, Tryz.underlying30, Tryz.underlying4, Tryz.underlying37, h0, h1, h2, h3, h4, h5, h6, h7, h8, h9, ht, hT]
theorem run_eql_res (w : World) {r : ResD} (h : r.T.length = 16) : (binOp .eql 52 (resDV r) (resDV r)).run Tryz.prog w = .ok (.bool true) w := by
  have h' := run_equal_res w h
  unfold resDV at h' ⊢
  rw [run_eql_struct, h']
  rfl
theorem run_neq_res (w : World) {r : ResD} (h : r.T.length = 16) : (binOp .neq 52 (resDV r) (resDV r)).run Tryz.prog w = .ok (.bool false) w := by
  have h' := run_equal_res w h
  unfold resDV at h' ⊢
  rw [run_neq_struct, h']
  rfl
end Go.Proofs.YtfchfjipkggnkaaGreatDoor
