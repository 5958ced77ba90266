/- object: the names of the clock and of the epoch. -/
import Derived.Test.YthghfhnicdoebaaGreatDoorViewH
namespace Go.Proofs.YthghfhnicdoebaaGreatDoor
open Go.RowKit

def clockN : NameT := ⟨15, ⟨#[]⟩, 0, 0, ⟨#[]⟩⟩
def epochN : NameT := ⟨20, ⟨#[]⟩, 0, 0, ⟨#[]⟩⟩

set_option maxRecDepth 100000 in
set_option maxHeartbeats 1000000 in
theorem ofClock_any (w : World) : Calls Tryz.prog 29 #[] w fun r w' => r = .returned (.agg #[.int .i64 15, .string ⟨#[]⟩, .int .i64 0, .int .i64 0, .string ⟨#[]⟩]) ∧ Below w.heap.size w w' := by
  go_enter Tryz.func29, Tryz.ntmps29
  go_wp2
  refine bodyPost_ret (v := .agg #[.int .i64 15, .string ⟨#[]⟩, .int .i64 0, .int .i64 0, .string ⟨#[]⟩]) (by simp [results, Tryz.results29, go_sem]) rfl ⟨rfl, ?_⟩
  exact (Below.refl _ _).alloc (Nat.le_refl _) _
set_option maxRecDepth 100000 in
set_option maxHeartbeats 1000000 in
theorem ofEpoch_any (w : World) : Calls Tryz.prog 32 #[] w fun r w' => r = .returned (.agg #[.int .i64 20, .string ⟨#[]⟩, .int .i64 0, .int .i64 0, .string ⟨#[]⟩]) ∧ Below w.heap.size w w' := by
  go_enter Tryz.func32, Tryz.ntmps32
  go_wp2
  refine bodyPost_ret (v := .agg #[.int .i64 20, .string ⟨#[]⟩, .int .i64 0, .int .i64 0, .string ⟨#[]⟩]) (by simp [results, Tryz.results32, go_sem]) rfl ⟨rfl, ?_⟩
  exact (Below.refl _ _).alloc (Nat.le_refl _) _

set_option maxRecDepth 100000 in
set_option maxHeartbeats 2000000 in
theorem checkClock_any (w : World) (hu : Usages w) :
    Calls Tryz.prog 66 #[.agg #[.int .i64 15, .string ⟨#[]⟩, .int .i64 0, .int .i64 0, .string ⟨#[]⟩]] w fun r w' => r = .returned (.int .i64 0) ∧ Below w.heap.size w w' := by
  have hp := hu.pos
  obtain ⟨u0, u1, u2, u3, u4, u5⟩ := hu 15 (by decide)
  have v0 : w.cell? ⟨0, 90, none⟩ = some (.string ⟨#[99, 108, 111, 99, 107]⟩) := u0
  have v1 : w.cell? ⟨0, 91, none⟩ = some (.bool false) := u1
  have v2 : w.cell? ⟨0, 92, none⟩ = some (.bool false) := u2
  have v3 : w.cell? ⟨0, 93, none⟩ = some (.bool false) := u3
  have v4 : w.cell? ⟨0, 94, none⟩ = some (.bool false) := u4
  have v5 : w.cell? ⟨0, 95, none⟩ = some (.int .i64 0) := u5
  clear u0 u1 u2 u3 u4 u5
  have Hu := Lib.hid hu; clear hu
  go_enter Tryz.func66, Tryz.ntmps66
  go_wp2_with fail
  refine (isKind_any 15 _ (by decide) (by decide)).mono ?_
  rintro e w1 ⟨rfl, rfl⟩
  go_wp2
  go_ret
  refine ⟨rfl, ?_⟩
  exact ((Below.refl _ _).alloc (Nat.le_refl _) _).alloc (by simp) _
theorem nameOk_clock : NameOk clockN := ⟨⟨emp_le, emp_le⟩, fun W hu => checkClock_any W hu⟩
set_option maxRecDepth 100000 in
set_option maxHeartbeats 2000000 in
theorem checkEpoch_any (w : World) (hu : Usages w) :
    Calls Tryz.prog 66 #[.agg #[.int .i64 20, .string ⟨#[]⟩, .int .i64 0, .int .i64 0, .string ⟨#[]⟩]] w fun r w' => r = .returned (.int .i64 0) ∧ Below w.heap.size w w' := by
  have hp := hu.pos
  obtain ⟨u0, u1, u2, u3, u4, u5⟩ := hu 20 (by decide)
  have v0 : w.cell? ⟨0, 120, none⟩ = some (.string ⟨#[101, 112, 111, 99, 104]⟩) := u0
  have v1 : w.cell? ⟨0, 121, none⟩ = some (.bool false) := u1
  have v2 : w.cell? ⟨0, 122, none⟩ = some (.bool false) := u2
  have v3 : w.cell? ⟨0, 123, none⟩ = some (.bool false) := u3
  have v4 : w.cell? ⟨0, 124, none⟩ = some (.bool false) := u4
  have v5 : w.cell? ⟨0, 125, none⟩ = some (.int .i64 0) := u5
  clear u0 u1 u2 u3 u4 u5
  have Hu := Lib.hid hu; clear hu
  go_enter Tryz.func66, Tryz.ntmps66
  go_wp2_with fail
  refine (isKind_any 20 _ (by decide) (by decide)).mono ?_
  rintro e w1 ⟨rfl, rfl⟩
  go_wp2
  go_ret
  refine ⟨rfl, ?_⟩
  exact ((Below.refl _ _).alloc (Nat.le_refl _) _).alloc (by simp) _
theorem nameOk_epoch : NameOk epochN := ⟨⟨emp_le, emp_le⟩, fun W hu => checkEpoch_any W hu⟩
end Go.Proofs.YthghfhnicdoebaaGreatDoor
