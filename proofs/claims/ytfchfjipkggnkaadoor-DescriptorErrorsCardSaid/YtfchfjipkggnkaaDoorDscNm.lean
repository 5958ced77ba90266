/- Law 31: names; an operation in memory. (printed by wip/gen_dscpn.py) -/
import Derived.Test.YtfchfjipkggnkaaDoorDscRs
import Derived.Deep.RegionHeld3
namespace Go.Proofs.YtfchfjipkggnkaaDoor
open Go.RowKit

def nmCells : List Value := [.string ⟨#[49]⟩, .string ⟨#[49, 46, 50]⟩, .string ⟨#[55]⟩, .string ⟨#[120]⟩]
theorem nmCells_at {k : Nat} (h : k < 4) : nmCells[k]? = some (.string (nmD k)) := by
  rcases (by omega : k = 0 ∨ k = 1 ∨ k = 2 ∨ k = 3) with rfl | rfl | rfl | rfl <;> rfl
theorem names31_any (w : World) : Calls Tryd.prog 50 #[] w fun r w' => r = .returned (.slice (some ⟨w.heap.size, 0, none⟩) 4 4) ∧ Below w.heap.size w w' ∧ RowIs w' w.heap.size 22 nmCells := by
  have HB : Hid (∀ o, Below w.heap.size w (w.alloc o)) := fun o => (Below.refl _ _).alloc (Nat.le_refl _) o
  have HR : Hid (RowIs (w.alloc (.cells #[.string ⟨#[49]⟩, .string ⟨#[49, 46, 50]⟩, .string ⟨#[55]⟩, .string ⟨#[120]⟩] 22)) w.heap.size 22 nmCells) := new_row w _ nmCells
  go_enter Tryd.func50, Tryd.ntmps50
  go_wp2
  go_ret
  exact ⟨rfl, HB.out _, HR.out⟩
/-- An operation as cells. -/
def opC (o : OpD) : List Value := [.int .u8 o.kd, .int .u8 o.who, .int .u8 o.to, .int .i64 o.fd, .int .i64 o.n, .int .i64 o.o.kd, .string o.o.mak, .int .i64 o.o.bn, .int .i64 o.o.num, .int .i64 o.o.off, .bool o.o.rd, .bool o.o.wr, .bool o.o.ap]
def opDV (o : OpD) : Value := .agg (opC o).toArray
theorem wpAnyH_monoN {P : Program} {md : Region.Mode} {ops : Array Oper} {Q : Exit → Act → World → Prop} {S1 S2 : World → Prop} (hS : ∀ w, S2 w → S1 w) : ∀ (fuel : Nat) (listed : Array Bool) (a : Act) (w : World), wpAnyH P md ops Q S2 fuel listed a w → wpAnyH P md ops Q S1 fuel listed a w
  | 0, _, _, _, h => h
  | fuel + 1, _, _, _, h => ⟨h.1, fun i hi => wpOp_mono (fun a' w' h' => ⟨hS _ h'.1, wpAnyH_monoN hS fuel _ a' w' h'.2⟩) (h.2 i hi)⟩
theorem cell_far (w : World) {X Y : Nat} (h : Y ≠ X) (i j : Nat) (v : Value) : (w.setCell ⟨X, i, none⟩ v).cell? ⟨Y, j, none⟩ = w.cell? ⟨Y, j, none⟩ := World.cell?_of_block (Below.heap_setCell w ⟨X, i, none⟩ v Y h)
theorem resC_at {r : ResD} (h : r.T.length = 16) {j : Nat} {v : Value} (hv : (opnCells r.O ++ [.int .i64 r.N, .int .i64 r.E])[j]? = some v) : (resC r)[128 + j]? = some v := by
  unfold resC
  rw [List.getElem?_append_right (by rw [tabC_128 h]; omega), tabC_128 h, show 128 + j - 128 = j by omega]
  exact hv
end Go.Proofs.YtfchfjipkggnkaaDoor
