/- object: names of terminals. -/
import Derived.Test.YtfobmfenjdiimaaGreatDoorViewC
import Derived.Test.YtfobmfenjdiimaaGreatDoorLinD
namespace Go.Proofs.YtfobmfenjdiimaaGreatDoor
open Go.RowKit

def ofTerm (number : Int) : NameT := ⟨13, ⟨#[]⟩, number, 0, ⟨#[]⟩⟩

set_option maxRecDepth 100000 in
set_option maxHeartbeats 1000000 in
theorem ofTerminal_any (n : Int) (w : World) : Calls Tryz.prog 8 #[.int .i64 n] w fun r w' => r = .returned (.agg #[.int .i64 13, .string ⟨#[]⟩, .int .i64 n, .int .i64 0, .string ⟨#[]⟩]) ∧ Below w.heap.size w w' := by
  go_enter Tryz.func8, Tryz.ntmps8
  go_wp2
  refine bodyPost_ret (v := .agg #[.int .i64 13, .string ⟨#[]⟩, .int .i64 n, .int .i64 0, .string ⟨#[]⟩]) (by simp [results, Tryz.results8, go_sem]) rfl ⟨rfl, ?_⟩
  exact (Below.refl _ _).alloc (Nat.le_refl _) _

set_option maxRecDepth 100000 in
set_option maxHeartbeats 2000000 in
theorem checkTerm_any (n : Int) (w : World) (hu : Usages w) (h0 : 0 ≤ n) (h1 : n ≤ 1073741824) :
    Calls Tryz.prog 24 #[.agg #[.int .i64 13, .string ⟨#[]⟩, .int .i64 n, .int .i64 0, .string ⟨#[]⟩]] w fun r w' => r = .returned (.int .i64 0) ∧ Below w.heap.size w w' := by
  have hp := hu.pos
  obtain ⟨u0, u1, u2, u3, u4, u5⟩ := hu 13 (by decide)
  have v0 : w.cell? ⟨0, 78, none⟩ = some (.string ⟨#[116, 101, 114, 109, 105, 110, 97, 108]⟩) := u0
  have v1 : w.cell? ⟨0, 79, none⟩ = some (.bool false) := u1
  have v2 : w.cell? ⟨0, 80, none⟩ = some (.bool true) := u2
  have v3 : w.cell? ⟨0, 81, none⟩ = some (.bool false) := u3
  have v4 : w.cell? ⟨0, 82, none⟩ = some (.bool false) := u4
  have v5 : w.cell? ⟨0, 83, none⟩ = some (.int .i64 0) := u5
  clear u0 u1 u2 u3 u4 u5
  have Hu := Lib.hid hu; clear hu
  go_enter Tryz.func24, Tryz.ntmps24
  go_wp2_with fail
  refine (isKind_any 13 _ (by decide) (by decide)).mono ?_
  rintro e w1 ⟨rfl, rfl⟩
  go_wp2_with fail
  refine (oWithin_any n 1073741824 _).mono ?_
  rintro e w1 ⟨rfl, rfl⟩
  rw [show decide (0 ≤ n ∧ n ≤ 1073741824) = true by simp [h0, h1]]
  go_wp2
  go_ret
  refine ⟨rfl, ?_⟩
  exact ((Below.refl _ _).alloc (Nat.le_refl _) _).alloc (by simp) _
theorem nameOk_term (k : Int) (h0 : 0 ≤ k) (h1 : k ≤ 1073741824) : NameOk (ofTerm k) := ⟨⟨emp_le, emp_le⟩, fun W hu => checkTerm_any k W hu h0 h1⟩

end Go.Proofs.YtfobmfenjdiimaaGreatDoor
