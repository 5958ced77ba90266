/- Law 31: comparison of two tables. -/
import Derived.Test.YtfchfjipkggnkaaDoorDscD
import Derived.ChangeKeysEq
namespace Go.Proofs.YtfchfjipkggnkaaDoor
open Go.RowKit

theorem part_tab (t : List OpnT) {k : Nat} {o : OpnT} (h : t[k]? = some o) (W : World) : (part 26 (tabA t) (k * 8)).run Tryd.prog W = .ok (opnA o) W := by
  have he := tab_extract h
  simp [part, go_sem, he, opnA, opnCells]
theorem equal_opnA (d : Nat) (w : World) (a b : OpnT) : (Op.equalIn (d + 4) 26 (opnA a) (opnA b)).run Tryd.prog w = .ok (sameO a b) w := run_equal_opn d w a b
def sameT (t t' : List OpnT) : Bool := (List.range 16).all fun j => sameO (t.getD j zeroO) (t'.getD j zeroO)
theorem eqItems_tab (w : World) {t t' : List OpnT} (ht : t.length = 16) (ht' : t'.length = 16) : ∀ is : List Nat, (∀ j ∈ is, j < 16) → (Op.eqItems 9999 26 8 (tabA t) (tabA t') is).run Tryd.prog w = .ok (is.all fun j => sameO (t.getD j zeroO) (t'.getD j zeroO)) w
  | [], _ => rfl
  | j :: is, h => by
    have hj := h j (by simp)
    obtain ⟨a, ha⟩ := ent_some ht hj
    obtain ⟨b, hb⟩ := ent_some ht' hj
    have ea : t.getD j zeroO = a := by rw [List.getD_eq_getElem?_getD, ha]; rfl
    have eb : t'.getD j zeroO = b := by rw [List.getD_eq_getElem?_getD, hb]; rfl
    have ih := eqItems_tab w ht ht' is (fun i hi => h i (by simp [hi]))
    simp only [Op.eqItems, Sem.run_bind, part_tab t ha, part_tab t' hb, Result.andThen_ok, equal_opnA 9995 w a b, List.all_cons, ea, eb]
    cases sameO a b with
    | false => rfl
    | true => simpa using ih
theorem sameT_iff {t t' : List OpnT} (ht : t.length = 16) (ht' : t'.length = 16) : sameT t t' = true ↔ t = t' := by
  unfold sameT
  rw [List.all_eq_true]
  constructor
  · intro h
    apply List.ext_getElem?
    intro i
    by_cases hi : i < 16
    · have := sameO_iff.1 (h i (by simp [hi]))
      obtain ⟨a, ha⟩ := ent_some ht hi
      obtain ⟨b, hb⟩ := ent_some ht' hi
      rw [List.getD_eq_getElem?_getD, List.getD_eq_getElem?_getD, ha, hb] at this
      rw [ha, hb]
      exact congrArg some this
    · rw [List.getElem?_eq_none (by omega), List.getElem?_eq_none (by omega)]
  · rintro rfl j _
    exact sameO_self _
theorem run_equal_tab (w : World) {t t' : List OpnT} (ht : t.length = 16) (ht' : t'.length = 16) : (Op.equalIn 10000 31 (.agg (tabA t)) (.agg (tabA t'))).run Tryd.prog w = .ok (sameT t t') w := by
  have hu : Tryd.prog.underlying 31 = some (.array 16 26) := Tryd.underlying31
  have hc : Tryd.prog.cellsOf 26 = 8 := by kernel_rfl
  have hi := infoOpn
  cases hq : Tryd.prog.info? 26 with
  | none => rw [hq] at hi; cases hi
  | some i =>
    rw [run_equalIn_array (w := w) 9999 (tabA t) (tabA t') hu hq, hc]
    exact eqItems_tab w ht ht' _ (fun j hj => by simpa using hj)
theorem run_eql_tab (w : World) {t t' : List OpnT} (ht : t.length = 16) (ht' : t'.length = 16) : (binOp .eql 31 (.agg (tabA t)) (.agg (tabA t'))).run Tryd.prog w = .ok (.bool (sameT t t')) w := by
  have h := run_equal_tab w ht ht'
  rw [run_eql_struct, h]
  rfl
end Go.Proofs.YtfchfjipkggnkaaDoor
