/- Tables as values and in blocks. Law 31: comparison of two tables. -/
import Derived.Test.YtfchfjipkggnkaaGreatDoorDscC
import Derived.Deep.MidRow
import Derived.Deep.WholeRow
import Derived.ChangeKeysEq
namespace Go.Proofs.YtfchfjipkggnkaaGreatDoor
open Go.RowKit

def opnCells (o : OpnT) : List Value := [.int .i64 o.kd, .string o.mak, .int .i64 o.bn, .int .i64 o.num, .int .i64 o.off, .bool o.rd, .bool o.wr, .bool o.ap]
def opnA (o : OpnT) : Value := .agg #[.int .i64 o.kd, .string o.mak, .int .i64 o.bn, .int .i64 o.num, .int .i64 o.off, .bool o.rd, .bool o.wr, .bool o.ap]
def tabC (t : List OpnT) : List Value := t.flatMap opnCells
def tabA (t : List OpnT) : Array Value := (tabC t).toArray
theorem tabC_len (t : List OpnT) : (tabC t).length = t.length * 8 := by
  induction t with
  | nil => rfl
  | cons o r ih => simp only [tabC, List.flatMap_cons, List.length_append] at ih ⊢; rw [ih]; simp [opnCells]; omega
theorem tabA_size (t : List OpnT) : (tabA t).size = t.length * 8 := by
  show (tabC t).toArray.size = _
  rw [List.size_toArray, tabC_len]
theorem tabA_128 {t : List OpnT} (h : t.length = 16) : (tabA t).size = 128 := by rw [tabA_size, h]
theorem tabC_at {t : List OpnT} : ∀ {k : Nat} {o : OpnT} {j : Nat} {u : Value}, t[k]? = some o → (opnCells o)[j]? = some u → (tabC t)[k * 8 + j]? = some u := by
  induction t with
  | nil => intro k o j u h; simp at h
  | cons x r ih =>
    intro k o j u h hu
    have hl : (opnCells x).length = 8 := rfl
    have hj : j < 8 := (List.getElem?_eq_some_iff.1 hu).1
    simp only [tabC, List.flatMap_cons]
    cases k with
    | zero =>
      simp at h
      subst h
      rw [List.getElem?_append_left (by rw [hl]; omega)]
      simpa using hu
    | succ k =>
      rw [List.getElem?_append_right (by rw [hl]; omega), hl]
      have := ih (k := k) (by simpa using h) hu
      rw [show (k + 1) * 8 + j - 8 = k * 8 + j by omega]
      exact this
theorem tabA_at {t : List OpnT} {k : Nat} {o : OpnT} {j : Nat} {u : Value} (h : t[k]? = some o) (hu : (opnCells o)[j]? = some u) : (tabA t)[k * 8 + j]? = some u := by
  show (tabC t).toArray[k * 8 + j]? = _
  rw [List.getElem?_toArray]
  exact tabC_at h hu
theorem tab_extract {t : List OpnT} {k : Nat} {o : OpnT} (h : t[k]? = some o) : (tabA t).extract (k * 8) (k * 8 + 8) = (opnCells o).toArray := by
  apply Array.ext_getElem?
  intro j
  have hk := (List.getElem?_eq_some_iff.1 h).1
  have hs := tabA_size t
  rw [Array.getElem?_extract]
  by_cases hj : j < 8
  · have hu : (opnCells o)[j]? = some ((opnCells o)[j]'(by show j < 8; exact hj)) := List.getElem?_eq_getElem _
    rw [if_pos (by omega), tabA_at h hu, List.getElem?_toArray, hu]
  · rw [if_neg (by omega), List.getElem?_toArray]
    exact (List.getElem?_eq_none (by show 8 ≤ j; omega)).symm
theorem tabC_set : ∀ {t : List OpnT} {k : Nat} {o : OpnT}, k < t.length → ∀ i, (tabC (t.set k o))[i]? = if k * 8 ≤ i ∧ i < k * 8 + 8 then (opnCells o)[i - k * 8]? else (tabC t)[i]?
  | [], _, _, h, _ => by simp at h
  | x :: r, 0, o, _, i => by
    simp only [List.set_cons_zero, tabC, List.flatMap_cons]
    have h1 : (opnCells o).length = 8 := rfl
    have h2 : (opnCells x).length = 8 := rfl
    by_cases hi : i < 8
    · rw [if_pos (by omega), List.getElem?_append_left (by omega)]; simp
    · rw [if_neg (by omega), List.getElem?_append_right (by omega), List.getElem?_append_right (by omega), h1, h2]
  | x :: r, k + 1, o, h, i => by
    have h2 : (opnCells x).length = 8 := rfl
    have ih := tabC_set (t := r) (k := k) (o := o) (by simpa using h) (i - 8)
    simp only [List.set_cons_succ, tabC, List.flatMap_cons] at ih ⊢
    by_cases hi : i < 8
    · rw [if_neg (by omega), List.getElem?_append_left (by omega), List.getElem?_append_left (by omega)]
    · rw [List.getElem?_append_right (by omega), List.getElem?_append_right (by omega), h2, ih]
      by_cases hk : k * 8 ≤ i - 8 ∧ i - 8 < k * 8 + 8
      · rw [if_pos hk, if_pos (by omega), show i - (k + 1) * 8 = i - 8 - k * 8 by omega]
      · rw [if_neg hk, if_neg (by omega)]
theorem tabA_set {t : List OpnT} {k : Nat} {o : OpnT} (h : k < t.length) (i : Nat) : (tabA (t.set k o))[i]? = if k * 8 ≤ i ∧ i < k * 8 + 8 then (opnCells o)[i - k * 8]? else (tabA t)[i]? := by
  show (tabC (t.set k o)).toArray[i]? = if _ then _ else (tabC t).toArray[i]?
  rw [List.getElem?_toArray, List.getElem?_toArray]
  exact tabC_set h i
theorem tabC_one (t : List OpnT) : ∀ u ∈ tabC t, u.oneCell' = true := by
  intro u hu
  obtain ⟨o, -, ho⟩ := List.mem_flatMap.1 hu
  simp only [opnCells, List.mem_cons, List.not_mem_nil, or_false] at ho
  rcases ho with rfl | rfl | rfl | rfl | rfl | rfl | rfl | rfl <;> rfl
theorem tabA_one (t : List OpnT) : (tabA t).all (·.oneCell') = true := all_oneCell_toArray (tabC_one t)
set_option maxRecDepth 100000 in
theorem zero_tab : Tryz.zeroCells36 = tabA zeroTab := by kernel_rfl
set_option maxRecDepth 100000 in
theorem infoTab : (Tryz.prog.info? 36).map (·.size) = some 128 := by kernel_rfl
theorem infoOpn : (Tryz.prog.info? 34).map (·.size) = some 8 := by kernel_rfl
/-- A table lies in a block. -/
def TabAt (w : World) (X : Nat) (t : List OpnT) : Prop := w.heap[X]? = some (.cells (tabA t) 36 (0, 0)) ∧ t.length = 16
section
variable {w w' : World} {X : Nat} {t : List OpnT}
theorem TabAt.later (h : TabAt w X t) (hb : Below w.heap.size w w') : TabAt w' X t := ⟨(hb.block _ (lt_of_heap h.1)).trans h.1, h.2⟩
theorem TabAt.load (h : TabAt w X t) : (Instr.loadAt 36 (.pointer (some ⟨X, 0, none⟩))).run Tryz.prog w = .ok (.agg (tabA t)) w := by
  simp only [Instr.loadAt, Instr.sureAddr, Sem.run_bind, Sem.run_pure, Result.andThen_ok]
  exact run_loadVar_row w X _ _ _ (0, 0) _ h.1 Tryz.underlying36 rfl (by rw [tabA_128 h.2]; exact infoTab)
theorem TabAt.cell (h : TabAt w X t) {k : Nat} {o : OpnT} (ho : t[k]? = some o) {j : Nat} {u : Value} (hu : (opnCells o)[j]? = some u) : w.cell? ⟨X, k * 8 + j, none⟩ = some u :=
  (cell_of_heap h.1 (k * 8 + j)).trans (tabA_at ho hu)
theorem TabAt.free (h : TabAt w X t) (i : Nat) : w.frozen? ⟨X, i, none⟩ = false := frozen_of_heap h.1 i
end
theorem tab_index (t : List OpnT) {k : Nat} {o : OpnT} (hk : k < 16) (h : t[k]? = some o) (W : World) : (Instr.index 36 (.agg (tabA t)) (.int .i64 k)).run Tryz.prog W = .ok (opnA o) W := by
  have he := tab_extract h
  have hk2 : (0 : Int) ≤ k ∧ (k : Int) < 16 := by omega
  simp only [Instr.index, asIntOf, Sem.run_bind, Sem.run_pure, Result.andThen_ok, run_underlying Tryz.underlying36]
  simp [hk2, part, go_sem, he, opnA, opnCells]
theorem ent_some {t : List OpnT} (h : t.length = 16) {k : Nat} (hk : k < 16) : ∃ o, t[k]? = some o := ⟨_, List.getElem?_eq_getElem (by omega)⟩
/-! ### As a walk meets them -/
theorem wp_load_tab {op : Oper} {a : Act} {w : World} {K : Act → World → Prop} {Q : Exit → Act → World → Prop} (x : Operand) (ho : op.op = .load 36 x) (X : Nat) (hx : a.eval x = .pointer (some ⟨X, 0, none⟩)) {t : List OpnT} (h : TabAt w X t)
    (hK : K (a.put op.dst (.agg (tabA t))) w) : op.wp Tryz.prog a w K Q := by
  have hv : (loadVar 36 ⟨X, 0, none⟩).run Tryz.prog w = .ok (.agg (tabA t)) w := run_loadVar_row w X _ _ _ (0, 0) _ h.1 Tryz.underlying36 rfl (by rw [tabA_128 h.2]; exact infoTab)
  unfold Oper.wp execOp
  simp only [ho, hx, Instr.loadAt, Instr.sureAddr, Sem.run_bind, Sem.run_pure, Result.andThen_ok, hv]
  exact hK
theorem TabAt.set {w : World} {X : Nat} {t t' : List OpnT} (h : TabAt w X t) (h' : t'.length = 16) : TabAt (w.setRow X (tabA t')) X t' := ⟨setRow_heap w X _ _ _ _ h.1, h'⟩
theorem grown_setRow (w : World) (X : Nat) (cs : Array Value) : w.grownBy (w.setRow X cs) (some X) :=
  ⟨rfl, rfl, rfl, by simp, fun k _ hk => setRow_other w X k cs (fun e => hk (by rw [e]))⟩
theorem wp_store_tab {op : Oper} {a : Act} {w : World} {K : Act → World → Prop} {Q : Exit → Act → World → Prop} (x y : Operand) (ho : op.op = .store 36 x y) (X : Nat) (hx : a.eval x = .pointer (some ⟨X, 0, none⟩)) {t t' : List OpnT} (hy : a.eval y = .agg (tabA t')) (h : TabAt w X t) (h' : t'.length = 16)
    (hK : K (a.put op.dst undef) (w.setRow X (tabA t'))) : op.wp Tryz.prog a w K Q := by
  have hv : (storeVar 36 ⟨X, 0, none⟩ (.agg (tabA t'))).run Tryz.prog w = .ok () (w.setRow X (tabA t')) := run_storeVar_row w X _ _ _ _ h.1 (by rw [tabA_128 h']; exact infoTab) (by rw [tabA_128 h', tabA_128 h.2]) (tabA_one t')
  unfold Oper.wp execOp
  simp only [ho, hx, hy, Instr.storeAt, Instr.sureAddr, Sem.run_bind, Sem.run_pure, Result.andThen_ok, hv]
  exact hK
/-- The store as a walk leaves it. -/
theorem TabAt.store {w : World} {X : Nat} {t t' : List OpnT} (h : TabAt w X t) (h' : t'.length = 16) : (storeCells ⟨X, 0, none⟩ (tabA t').toList).run Tryz.prog w = .ok () (w.setRow X (tabA t')) := by
  have := run_storeVar_row (P := Tryz.prog) w X _ 36 _ (tabA t') h.1 (by rw [tabA_128 h']; exact infoTab) (by rw [tabA_128 h', tabA_128 h.2]) (tabA_one t')
  have hi := infoTab
  cases hq : Tryz.prog.info? 36 with
  | none => rw [hq] at hi; cases hi
  | some i =>
    have hs : (tabA t').size = i.size := by rw [hq] at hi; simp at hi; rw [tabA_128 h', hi]
    simpa [storeVar, sizeOf, typeInfo, hq, Value.cells, hs] using this
theorem TabAt.store0 {w : World} {X : Nat} {t : List OpnT} (h : TabAt w X t) : (storeCells ⟨X, 0, none⟩ Tryz.zeroCells36.toList).run Tryz.prog w = .ok () (w.setRow X Tryz.zeroCells36) := by
  have := h.store zeroTab_len
  rw [← zero_tab] at this
  exact this
theorem results_tab {fn : Func} {p u : Tmp} (h : fn.results = #[.cell p 36, .tmp u]) (tmps : Array Value) (w : World) (X : Nat) {t : List OpnT} (hp : tmps.getD p undef = .pointer (some ⟨X, 0, none⟩)) {v : Value} (hu : tmps.getD u undef = v) (ht : TabAt w X t) :
    (results fn tmps).run Tryz.prog w = .ok (.tuple #[.agg (tabA t), v]) w := by
  have hv : (loadVar 36 ⟨X, 0, none⟩).run Tryz.prog w = .ok (.agg (tabA t)) w := run_loadVar_row w X _ _ _ (0, 0) _ ht.1 Tryz.underlying36 rfl (by rw [tabA_128 ht.2]; exact infoTab)
  rw [results_cell_tmp h, hp, hu]
  simp only [asAddr, Sem.run_pure, Result.andThen_ok, hv]
theorem arr_get8 (A : Array Value) (k : Nat) (a0 a1 a2 a3 a4 a5 a6 a7 : Value) (hA : k * 8 + 8 ≤ A.size) (i : Nat) :
    ((((((((A.setIfInBounds (k * 8) a0).setIfInBounds (k * 8 + 1) a1).setIfInBounds (k * 8 + 2) a2).setIfInBounds (k * 8 + 3) a3).setIfInBounds (k * 8 + 4) a4).setIfInBounds (k * 8 + 5) a5).setIfInBounds (k * 8 + 6) a6).setIfInBounds (k * 8 + 7) a7)[i]? = if k * 8 ≤ i ∧ i < k * 8 + 8 then [a0, a1, a2, a3, a4, a5, a6, a7][i - k * 8]? else A[i]? := by
  simp only [Array.getElem?_setIfInBounds, Array.size_setIfInBounds]
  by_cases h : k * 8 ≤ i ∧ i < k * 8 + 8
  · rw [if_pos h]
    obtain ⟨j, rfl⟩ : ∃ j, i = k * 8 + j := ⟨i - k * 8, by omega⟩
    have hj : j < 8 := by omega
    rw [show k * 8 + j - k * 8 = j by omega]
    rcases (by omega : j = 0 ∨ j = 1 ∨ j = 2 ∨ j = 3 ∨ j = 4 ∨ j = 5 ∨ j = 6 ∨ j = 7) with rfl | rfl | rfl | rfl | rfl | rfl | rfl | rfl
    all_goals
      repeat (first | rw [if_neg (by omega)] | rw [if_pos (by omega), if_pos (by omega)])
      try rfl
  · rw [if_neg h]
    repeat rw [if_neg (by omega)]
/-- One entry is stored, cell by cell. -/
theorem tab_stored {w : World} {X : Nat} {t : List OpnT} (h : TabAt w X t) {k : Nat} (hk : k < 16) (o : OpnT) :
    TabAt ((((((((w.setCell ⟨X, k * 8, none⟩ (.int .i64 o.kd)).setCell ⟨X, k * 8 + 1, none⟩ (.string o.mak)).setCell ⟨X, k * 8 + 2, none⟩ (.int .i64 o.bn)).setCell ⟨X, k * 8 + 3, none⟩ (.int .i64 o.num)).setCell ⟨X, k * 8 + 4, none⟩ (.int .i64 o.off)).setCell ⟨X, k * 8 + 5, none⟩ (.bool o.rd)).setCell ⟨X, k * 8 + 6, none⟩ (.bool o.wr)).setCell ⟨X, k * 8 + 7, none⟩ (.bool o.ap)) X (t.set k o) := by
  refine ⟨?_, by simp [h.2]⟩
  have h8 := heap_setCell_same (heap_setCell_same (heap_setCell_same (heap_setCell_same (heap_setCell_same (heap_setCell_same (heap_setCell_same (heap_setCell_same h.1 (k * 8) (.int .i64 o.kd)) (k * 8 + 1) (.string o.mak)) (k * 8 + 2) (.int .i64 o.bn)) (k * 8 + 3) (.int .i64 o.num)) (k * 8 + 4) (.int .i64 o.off)) (k * 8 + 5) (.bool o.rd)) (k * 8 + 6) (.bool o.wr)) (k * 8 + 7) (.bool o.ap)
  refine h8.trans (congrArg (fun A => some (Obj.cells A 36 (0, 0))) ?_)
  apply Array.ext_getElem?
  intro i
  have hs := tabA_size t
  have hl := h.2
  rw [arr_get8 _ _ _ _ _ _ _ _ _ _ (by omega), tabA_set (by omega)]
  rfl
theorem grown_set8 (w : World) (X : Nat) (i0 i1 i2 i3 i4 i5 i6 i7 : Nat) (a0 a1 a2 a3 a4 a5 a6 a7 : Value) : w.grownBy ((((((((w.setCell ⟨X, i0, none⟩ a0).setCell ⟨X, i1, none⟩ a1).setCell ⟨X, i2, none⟩ a2).setCell ⟨X, i3, none⟩ a3).setCell ⟨X, i4, none⟩ a4).setCell ⟨X, i5, none⟩ a5).setCell ⟨X, i6, none⟩ a6).setCell ⟨X, i7, none⟩ a7) (some X) :=
  grown_trans (grown_trans (grown_trans (grown_trans (grown_trans (grown_trans (grown_trans (grown_setCell _ _ _ _) (grown_setCell _ _ _ _)) (grown_setCell _ _ _ _)) (grown_setCell _ _ _ _)) (grown_setCell _ _ _ _)) (grown_setCell _ _ _ _)) (grown_setCell _ _ _ _)) (grown_setCell _ _ _ _)
end Go.Proofs.YtfchfjipkggnkaaGreatDoor

namespace Go.Proofs.YtfchfjipkggnkaaGreatDoor
open Go.RowKit

theorem part_tab (t : List OpnT) {k : Nat} {o : OpnT} (h : t[k]? = some o) (W : World) : (part 34 (tabA t) (k * 8)).run Tryz.prog W = .ok (opnA o) W := by
  have he := tab_extract h
  simp [part, go_sem, he, opnA, opnCells]
theorem equal_opnA (d : Nat) (w : World) (a b : OpnT) : (Op.equalIn (d + 4) 34 (opnA a) (opnA b)).run Tryz.prog w = .ok (sameO a b) w := run_equal_opn d w a b
def sameT (t t' : List OpnT) : Bool := (List.range 16).all fun j => sameO (t.getD j zeroO) (t'.getD j zeroO)
theorem eqItems_tab (w : World) {t t' : List OpnT} (ht : t.length = 16) (ht' : t'.length = 16) : ∀ is : List Nat, (∀ j ∈ is, j < 16) → (Op.eqItems 9999 34 8 (tabA t) (tabA t') is).run Tryz.prog w = .ok (is.all fun j => sameO (t.getD j zeroO) (t'.getD j zeroO)) w
  | [], _ => rfl
  | j :: is, h => by
    have hj := h j (by simp)
    obtain ⟨a, ha⟩ := ent_some ht hj
    obtain ⟨b, hb⟩ := ent_some ht' hj
    have ea : t.getD j zeroO = a := by rw [List.getD_eq_getElem?_getD, ha]; rfl
    have eb : t'.getD j zeroO = b := by rw [List.getD_eq_getElem?_getD, hb]; rfl
    have ih := eqItems_tab w ht ht' is (fun i hi => h i (by simp [hi]))
    simp only [Op.eqItems, Sem.run_bind, part_tab t ha, part_tab t' hb, Result.andThen_ok, equal_opnA 9995 w a b, List.all_cons, ea, eb]
    cases sameO a b with
    | false => rfl
    | true => simpa using ih
theorem sameT_iff {t t' : List OpnT} (ht : t.length = 16) (ht' : t'.length = 16) : sameT t t' = true ↔ t = t' := by
  unfold sameT
  rw [List.all_eq_true]
  constructor
  · intro h
    apply List.ext_getElem?
    intro i
    by_cases hi : i < 16
    · have := sameO_iff.1 (h i (by simp [hi]))
      obtain ⟨a, ha⟩ := ent_some ht hi
      obtain ⟨b, hb⟩ := ent_some ht' hi
      rw [List.getD_eq_getElem?_getD, List.getD_eq_getElem?_getD, ha, hb] at this
      rw [ha, hb]
      exact congrArg some this
    · rw [List.getElem?_eq_none (by omega), List.getElem?_eq_none (by omega)]
  · rintro rfl j _
    exact sameO_self _
theorem run_equal_tab (w : World) {t t' : List OpnT} (ht : t.length = 16) (ht' : t'.length = 16) : (Op.equalIn 10000 36 (.agg (tabA t)) (.agg (tabA t'))).run Tryz.prog w = .ok (sameT t t') w := by
  have hu : Tryz.prog.underlying 36 = some (.array 16 34) := Tryz.underlying36
  have hc : Tryz.prog.cellsOf 34 = 8 := by kernel_rfl
  have hi := infoOpn
  cases hq : Tryz.prog.info? 34 with
  | none => rw [hq] at hi; cases hi
  | some i =>
    rw [run_equalIn_array (w := w) 9999 (tabA t) (tabA t') hu hq, hc]
    exact eqItems_tab w ht ht' _ (fun j hj => by simpa using hj)
theorem run_eql_tab (w : World) {t t' : List OpnT} (ht : t.length = 16) (ht' : t'.length = 16) : (binOp .eql 36 (.agg (tabA t)) (.agg (tabA t'))).run Tryz.prog w = .ok (.bool (sameT t t')) w := by
  have h := run_equal_tab w ht ht'
  rw [run_eql_struct, h]
  rfl
end Go.Proofs.YtfchfjipkggnkaaGreatDoor
