/- signal: records compared; Take, Waiting. -/
import Derived.Test.YtemmeopaihmlcaaDoorSigK
import Derived.ChangeKeysEq
namespace Go.Proofs.YtemmeopaihmlcaaDoor
open Go.RowKit
attribute [local go_sem ↓] Go.wp_at_zero Go.wp_at_succ

def sameRB (a b : RecT) : Bool := decide (a = b)
set_option maxRecDepth 100000 in
theorem run_equal_h (w : World) (a b : RecT) : (Op.equalIn 9999 33 (.agg (hCells a)) (.agg (hCells b))).run Tryd.prog w = .ok (decide (a.hs = b.hs)) w := by
  have hi0 : (Tryd.prog.info? 3).isSome = true := by kernel_rfl
  obtain ⟨i, hi⟩ := Option.isSome_iff_exists.1 hi0
  have hc : Tryd.prog.cellsOf 3 = 1 := by kernel_rfl
  rw [run_equalIn_array w 9998 _ _ Tryd.underlying33 hi, hc]
  have hr : List.range 8 = [0, 1, 2, 3, 4, 5, 6, 7] := by decide
  rw [hr]
  obtain ⟨p, bl, i, h0, h1, h2, h3, h4, h5, h6, h7⟩ := a
  obtain ⟨p', bl', i', k0, k1, k2, k3, k4, k5, k6, k7⟩ := b
  simp [go_sem, Op.eqItems, part, hCells, RecT.hs, Tryd.underlying3]
  by_cases e0 : h0 = k0 <;> by_cases e1 : h1 = k1 <;> by_cases e2 : h2 = k2 <;> by_cases e3 : h3 = k3 <;> simp [e0, e1, e2, e3]
  by_cases e4 : h4 = k4 <;> by_cases e5 : h5 = k5 <;> by_cases e6 : h6 = k6 <;> by_cases e7 : h7 = k7 <;> simp [e4, e5, e6, e7]
set_option maxRecDepth 100000 in
theorem run_equal_rec (w : World) (a b : RecT) : (Op.equal 35 (recV a) (recV b)).run Tryd.prog w = .ok (decide (a = b)) w := by
  have hu : Tryd.prog.underlying 35 = some (.struct (Tryd.prog.fieldsOf 35)) := by kernel_rfl
  have hst : Tryd.prog.stoodInHeld 35 = false := by kernel_rfl
  simp only [Op.equal, Op.maxDepth, recV, rCells]
  rw [run_equalIn_struct w 9999 _ _ _ hu hst]
  simp [go_sem, Tryd.underlying35, Tryd.underlying3]
  have h := run_equal_h w a b
  simp only [hCells] at h
  rw [h]
  obtain ⟨p, bl, i, h0, h1, h2, h3, h4, h5, h6, h7⟩ := a
  obtain ⟨p', bl', i', k0, k1, k2, k3, k4, k5, k6, k7⟩ := b
  simp only [RecT.hs, RecT.mk.injEq, Result.andThen_ok]
  by_cases e0 : p = p' <;> by_cases e1 : bl = bl' <;> by_cases e2 : i = i' <;> simp [e0, e1, e2]
  split <;> simp_all
theorem run_eql_rec (w : World) (a0 a1 a2 a3 a4 a5 a6 a7 a8 a9 a10 b0 b1 b2 b3 b4 b5 b6 b7 b8 b9 b10 : Int) : (binOp .eql 35 (.agg #[.int .i64 a0, .int .i64 a1, .int .i64 a2, .int .i64 a3, .int .i64 a4, .int .i64 a5, .int .i64 a6, .int .i64 a7, .int .i64 a8, .int .i64 a9, .int .i64 a10]) (.agg #[.int .i64 b0, .int .i64 b1, .int .i64 b2, .int .i64 b3, .int .i64 b4, .int .i64 b5, .int .i64 b6, .int .i64 b7, .int .i64 b8, .int .i64 b9, .int .i64 b10])).run Tryd.prog w = .ok (.bool (sameRB ⟨a0, a1, a2, a3, a4, a5, a6, a7, a8, a9, a10⟩ ⟨b0, b1, b2, b3, b4, b5, b6, b7, b8, b9, b10⟩)) w := by
  have h := run_equal_rec w ⟨a0, a1, a2, a3, a4, a5, a6, a7, a8, a9, a10⟩ ⟨b0, b1, b2, b3, b4, b5, b6, b7, b8, b9, b10⟩
  simp only [recV, rCells] at h
  simp only [binOp]
  simp [h, sameRB]
theorem run_neq_rec (w : World) (a0 a1 a2 a3 a4 a5 a6 a7 a8 a9 a10 b0 b1 b2 b3 b4 b5 b6 b7 b8 b9 b10 : Int) : (binOp .neq 35 (.agg #[.int .i64 a0, .int .i64 a1, .int .i64 a2, .int .i64 a3, .int .i64 a4, .int .i64 a5, .int .i64 a6, .int .i64 a7, .int .i64 a8, .int .i64 a9, .int .i64 a10]) (.agg #[.int .i64 b0, .int .i64 b1, .int .i64 b2, .int .i64 b3, .int .i64 b4, .int .i64 b5, .int .i64 b6, .int .i64 b7, .int .i64 b8, .int .i64 b9, .int .i64 b10])).run Tryd.prog w = .ok (.bool (!sameRB ⟨a0, a1, a2, a3, a4, a5, a6, a7, a8, a9, a10⟩ ⟨b0, b1, b2, b3, b4, b5, b6, b7, b8, b9, b10⟩)) w := by
  have h := run_equal_rec w ⟨a0, a1, a2, a3, a4, a5, a6, a7, a8, a9, a10⟩ ⟨b0, b1, b2, b3, b4, b5, b6, b7, b8, b9, b10⟩
  simp only [recV, rCells] at h
  simp only [binOp]
  simp [h, sameRB]

end Go.Proofs.YtemmeopaihmlcaaDoor
