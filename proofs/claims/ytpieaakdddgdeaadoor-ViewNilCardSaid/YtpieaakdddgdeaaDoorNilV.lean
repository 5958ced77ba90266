/- view: a nil view. (printed by wip/gen_vnil.py) -/
import Derived.Test.YtpieaakdddgdeaaDoorViewH
namespace Go.Proofs.YtpieaakdddgdeaaDoor
open Go.RowKit

set_option maxRecDepth 100000 in
set_option maxHeartbeats 1000000 in
theorem vnGet (n1 : Int) (n2 : ByteArray) (n3 n4 : Int) (n5 : ByteArray) (w : World) : Calls Tryd.prog 12 #[.pointer none, .agg #[.int .i64 n1, .string n2, .int .i64 n3, .int .i64 n4, .string n5]] w fun r w' => r = .returned (.tuple #[.string ⟨#[]⟩, .bool false]) ∧ Below w.heap.size w w' := by
  go_enter Tryd.func12, Tryd.ntmps12
  go_wp2
  go_ret2
  exact ⟨rfl, (Below.refl _ _).alloc (Nat.le_refl _) _⟩
set_option maxRecDepth 100000 in
set_option maxHeartbeats 1000000 in
theorem vnSet (n1 : Int) (n2 : ByteArray) (n3 n4 : Int) (n5 : ByteArray) (x : ByteArray) (w : World) : Calls Tryd.prog 10 #[.pointer none, .agg #[.int .i64 n1, .string n2, .int .i64 n3, .int .i64 n4, .string n5], .string x] w fun r w' => r = .returned (.int .i64 1) ∧ Below w.heap.size w w' := by
  go_enter Tryd.func10, Tryd.ntmps10
  go_wp2
  go_ret
  exact ⟨rfl, (Below.refl _ _).alloc (Nat.le_refl _) _⟩
set_option maxRecDepth 100000 in
set_option maxHeartbeats 1000000 in
theorem vnDel (n1 : Int) (n2 : ByteArray) (n3 n4 : Int) (n5 : ByteArray) (w : World) : Calls Tryd.prog 19 #[.pointer none, .agg #[.int .i64 n1, .string n2, .int .i64 n3, .int .i64 n4, .string n5]] w fun r w' => r = .returned (.int .i64 1) ∧ Below w.heap.size w w' := by
  go_enter Tryd.func19, Tryd.ntmps19
  go_wp2
  go_ret
  exact ⟨rfl, (Below.refl _ _).alloc (Nat.le_refl _) _⟩
set_option maxRecDepth 100000 in
set_option maxHeartbeats 1000000 in
theorem vnMark (w : World) : Calls Tryd.prog 20 #[.pointer none] w fun r w' => r = .returned (.int .i64 0) ∧ Below w.heap.size w w' := by
  go_enter Tryd.func20, Tryd.ntmps20
  go_wp2
  go_ret
  exact ⟨rfl, Below.refl _ _⟩
set_option maxRecDepth 100000 in
set_option maxHeartbeats 1000000 in
theorem vnRollback (m : Int) (w : World) : Calls Tryd.prog 21 #[.pointer none, .int .i64 m] w fun r w' => r = .returned (.int .i64 1) ∧ Below w.heap.size w w' := by
  go_enter Tryd.func21, Tryd.ntmps21
  go_wp2
  go_ret
  exact ⟨rfl, Below.refl _ _⟩
set_option maxRecDepth 100000 in
set_option maxHeartbeats 1000000 in
theorem vnReads (w : World) : Calls Tryd.prog 14 #[.pointer none] w fun r w' => r = .returned (.slice none 0 0) ∧ Below w.heap.size w w' := by
  go_enter Tryd.func14, Tryd.ntmps14
  go_wp2
  go_ret
  exact ⟨rfl, Below.refl _ _⟩
set_option maxRecDepth 100000 in
set_option maxHeartbeats 1000000 in
theorem vnWrites (w : World) : Calls Tryd.prog 13 #[.pointer none] w fun r w' => r = .returned (.slice none 0 0) ∧ Below w.heap.size w w' := by
  go_enter Tryd.func13, Tryd.ntmps13
  go_wp2
  go_ret
  exact ⟨rfl, Below.refl _ _⟩
set_option maxRecDepth 100000 in
set_option maxHeartbeats 1000000 in
theorem vnAfter (w : World) : Calls Tryd.prog 17 #[.pointer none] w fun r w' => r = .returned (.tuple #[.pointer none, .int .i64 1]) ∧ Below w.heap.size w w' := by
  go_enter Tryd.func17, Tryd.ntmps17
  go_wp2
  go_ret2
  exact ⟨rfl, Below.refl _ _⟩
set_option maxRecDepth 100000 in
set_option maxHeartbeats 1000000 in
theorem vnClone (w : World) : Calls Tryd.prog 22 #[.pointer none] w fun r w' => r = .returned (.pointer none) ∧ Below w.heap.size w w' := by
  go_enter Tryd.func22, Tryd.ntmps22
  go_wp2
  go_ret
  exact ⟨rfl, Below.refl _ _⟩
set_option maxRecDepth 100000 in
set_option maxHeartbeats 1000000 in
theorem vnEqual (w : World) : Calls Tryd.prog 23 #[.pointer none, .pointer none] w fun r w' => r = .returned (.bool true) ∧ Below w.heap.size w w' := by
  go_enter Tryd.func23, Tryd.ntmps23
  go_wp2
  go_ret
  exact ⟨rfl, Below.refl _ _⟩
set_option maxRecDepth 100000 in
set_option maxHeartbeats 1000000 in
theorem vnEqual1 (b : Nat) (w : World) : Calls Tryd.prog 23 #[.pointer none, .pointer (some ⟨b, 0, none⟩)] w fun r w' => r = .returned (.bool false) ∧ Below w.heap.size w w' := by
  go_enter Tryd.func23, Tryd.ntmps23
  go_wp2
  go_ret
  exact ⟨rfl, Below.refl _ _⟩
set_option maxRecDepth 100000 in
set_option maxHeartbeats 1000000 in
theorem vnEqual2 (b : Nat) (w : World) : Calls Tryd.prog 23 #[.pointer (some ⟨b, 0, none⟩), .pointer none] w fun r w' => r = .returned (.bool false) ∧ Below w.heap.size w w' := by
  go_enter Tryd.func23, Tryd.ntmps23
  go_wp2
  go_ret
  exact ⟨rfl, Below.refl _ _⟩
set_option maxRecDepth 100000 in
set_option maxHeartbeats 1000000 in
theorem vnNew (w : World) : Calls Tryd.prog 8 #[.pointer none] w fun r w' => r = .returned (.pointer none) ∧ Below w.heap.size w w' := by
  go_enter Tryd.func8, Tryd.ntmps8
  go_wp2
  go_ret
  exact ⟨rfl, Below.refl _ _⟩
set_option maxRecDepth 100000 in
set_option maxHeartbeats 1000000 in
theorem vnHas (n1 : Int) (n2 : ByteArray) (n3 n4 : Int) (n5 : ByteArray) (w : World) : Calls Tryd.prog 18 #[.pointer none, .agg #[.int .i64 n1, .string n2, .int .i64 n3, .int .i64 n4, .string n5]] w fun r w' => r = .returned (.bool false) ∧ Below w.heap.size w w' := by
  go_enter Tryd.func18, Tryd.ntmps18
  go_wp2_with fail
  refine (vnGet n1 n2 n3 n4 n5 _).mono ?_
  rintro r w1 ⟨rfl, hb1⟩
  have Hb1 : Hid (Below w.heap.size w w1) := by first | exact hb1 | exact ((Below.refl _ _).alloc (Nat.le_refl _) _).trans (hb1.mono (by simp))
  clear hb1
  go_wp2
  go_ret
  exact ⟨rfl, Hb1.out⟩
end Go.Proofs.YtpieaakdddgdeaaDoor
