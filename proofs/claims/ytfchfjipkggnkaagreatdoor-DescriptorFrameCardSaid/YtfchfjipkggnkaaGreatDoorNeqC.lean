/- Comparisons of names and changes. -/
import Derived.Test.YtfchfjipkggnkaaGreatDoorViewC
namespace Go.Proofs.YtfchfjipkggnkaaGreatDoor
open Go.RowKit
def neqNB (a b : NameT) : Bool := !decide (a = b)
theorem run_neq_name (w : World) (a1 : Int) (a2 : ByteArray) (a3 a4 : Int) (a5 : ByteArray) (b1 : Int) (b2 : ByteArray) (b3 b4 : Int) (b5 : ByteArray) : (binOp .neq 56 (.agg #[.int .i64 a1, .string a2, .int .i64 a3, .int .i64 a4, .string a5]) (.agg #[.int .i64 b1, .string b2, .int .i64 b3, .int .i64 b4, .string b5])).run Tryz.prog w = .ok (.bool (neqNB ⟨a1, a2, a3, a4, a5⟩ ⟨b1, b2, b3, b4, b5⟩)) w := by
  have h := run_equal_name w ⟨a1, a2, a3, a4, a5⟩ ⟨b1, b2, b3, b4, b5⟩
  simp only [nameV] at h
  simp only [binOp]
  simp [h, neqNB]
theorem neqNB_self (a : NameT) : neqNB a a = false := by simp [neqNB]
set_option maxRecDepth 100000 in
theorem run_equal_change (w : World) (a b : ChangeT) : (Op.equal 61 (changeV a) (changeV b)).run Tryz.prog w = .ok (decide (a = b)) w := by
  have hu : Tryz.prog.underlying 61 = some (.struct (Tryz.prog.fieldsOf 61)) := by kernel_rfl
  have hst : Tryz.prog.stoodInHeld 61 = false := by kernel_rfl
  simp only [Op.equal, Op.maxDepth, changeV]
  rw [run_equalIn_struct w 9999 _ _ _ hu hst]
  simp [go_sem, Tryz.underlying56, Tryz.underlying3, Tryz.underlying9, Tryz.underlying30, Tryz.underlying4]
  have hb : ∀ x y : ByteArray, x.toList = y.toList ↔ x = y := fun x y => by have := str_beq x y; rw [Bool.eq_iff_iff] at this; simpa using this
  obtain ⟨⟨a1, a2, a3, a4, a5⟩, a6, a7⟩ := a
  obtain ⟨⟨b1, b2, b3, b4, b5⟩, b6, b7⟩ := b
  simp only [hb, ChangeT.mk.injEq, NameT.mk.injEq]
  by_cases h1 : a1 = b1
  case neg => simp [h1]
  by_cases h2 : a2 = b2
  case neg => simp [h2]
  by_cases h3 : a3 = b3
  case neg => simp [h3]
  by_cases h4 : a4 = b4
  case neg => simp [h4]
  by_cases h5 : a5 = b5
  case neg => simp [h5]
  by_cases h6 : a6 = b6
  case neg => simp [h6]
  by_cases h7 : a7 = b7
  case neg => simp [h7]
  simp [h1, h2, h3, h4, h5, h6, h7]
def neqCB (a b : ChangeT) : Bool := !decide (a = b)
theorem run_neq_change (w : World) (a1 : Int) (a2 : ByteArray) (a3 a4 : Int) (a5 a6 : ByteArray) (a7 : Bool) (b1 : Int) (b2 : ByteArray) (b3 b4 : Int) (b5 b6 : ByteArray) (b7 : Bool) : (binOp .neq 61 (.agg #[.int .i64 a1, .string a2, .int .i64 a3, .int .i64 a4, .string a5, .string a6, .bool a7]) (.agg #[.int .i64 b1, .string b2, .int .i64 b3, .int .i64 b4, .string b5, .string b6, .bool b7])).run Tryz.prog w = .ok (.bool (neqCB ⟨⟨a1, a2, a3, a4, a5⟩, a6, a7⟩ ⟨⟨b1, b2, b3, b4, b5⟩, b6, b7⟩)) w := by
  have h := run_equal_change w ⟨⟨a1, a2, a3, a4, a5⟩, a6, a7⟩ ⟨⟨b1, b2, b3, b4, b5⟩, b6, b7⟩
  simp only [changeV] at h
  simp only [binOp]
  simp [h, neqCB]
theorem neqCB_self (a : ChangeT) : neqCB a a = false := by simp [neqCB]
end Go.Proofs.YtfchfjipkggnkaaGreatDoor
