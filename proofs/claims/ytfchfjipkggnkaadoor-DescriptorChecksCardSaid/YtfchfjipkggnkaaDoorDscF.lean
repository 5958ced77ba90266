/- Names of tables. -/
import Derived.Test.YtfchfjipkggnkaaDoorDscT
import Derived.Test.YtfchfjipkggnkaaDoorViewH
import Derived.Test.YtfchfjipkggnkaaDoorQmC
namespace Go.Proofs.YtfchfjipkggnkaaDoor
open Go.RowKit

theorem second_newD (w : World) (o1 o2 : Obj) : ((w.alloc o1).alloc o2).heap[w.heap.size + 1]? = some o2 := by have := World.alloc_heap_new (w.alloc o1) o2; rwa [World.size_alloc] at this
set_option maxRecDepth 100000 in
set_option maxHeartbeats 2000000 in
theorem checkTab_any (m : ByteArray) (w : World) (hu : Usages w) (hm : validB m = true) (hmz : m.size ≤ 70368744177664) :
    Calls Tryd.prog 56 #[.agg #[.int .i64 4, .string m, .int .i64 0, .int .i64 0, .string ⟨#[]⟩]] w fun r w' => r = .returned (.int .i64 0) ∧ Below w.heap.size w w' := by
  have hp := hu.pos
  obtain ⟨u0, u1, u2, u3, u4, u5⟩ := hu 4 (by decide)
  have v0 : w.cell? ⟨0, 24, none⟩ = some (.string ⟨#[116, 97, 98, 108, 101]⟩) := u0
  have v1 : w.cell? ⟨0, 25, none⟩ = some (.bool true) := u1
  have v2 : w.cell? ⟨0, 26, none⟩ = some (.bool false) := u2
  have v3 : w.cell? ⟨0, 27, none⟩ = some (.bool false) := u3
  have v4 : w.cell? ⟨0, 28, none⟩ = some (.bool false) := u4
  have v5 : w.cell? ⟨0, 29, none⟩ = some (.int .i64 0) := u5
  clear u0 u1 u2 u3 u4 u5
  have Hu := Lib.hid hu; clear hu
  go_enter Tryd.func56, Tryd.ntmps56
  go_wp2_with fail
  refine (isKind_any 4 _ (by decide) (by decide)).mono ?_
  rintro e w1 ⟨rfl, rfl⟩
  go_wp2_with fail
  refine (valid_is m _ hmz hm _).mono ?_
  rintro e w1 ⟨rfl, hb1⟩
  have hn1 := (hb1.block w.heap.size (by simp; omega)).trans ((Below.heap_alloc _ _ _ (by simp)).trans (World.alloc_heap_new w _))
  have hu1 := (hb1.block (w.heap.size + 1) (by simp)).trans (second_newD w _ _)
  have t2 : w1.cell? ⟨w.heap.size + 1, 2, none⟩ = some (.bool false) := cell_of_heap hu1 2
  have t3 : w1.cell? ⟨w.heap.size + 1, 3, none⟩ = some (.bool false) := cell_of_heap hu1 3
  have t4 : w1.cell? ⟨w.heap.size + 1, 4, none⟩ = some (.bool false) := cell_of_heap hu1 4
  have q2 : w1.cell? ⟨w.heap.size, 2, none⟩ = some (.int .i64 0) := cell_of_heap hn1 2
  have q3 : w1.cell? ⟨w.heap.size, 3, none⟩ = some (.int .i64 0) := cell_of_heap hn1 3
  have q4 : w1.cell? ⟨w.heap.size, 4, none⟩ = some (.string ⟨#[]⟩) := cell_of_heap hn1 4
  have HB1 : Hid (Below w.heap.size w w1) := (((Below.refl _ _).alloc (Nat.le_refl _) _).alloc (by simp) _).trans (hb1.mono (by simp; omega))
  clear hb1 hn1 hu1 v0 v1 v2 v3 v4 v5
  go_wp2
  go_ret
  exact ⟨rfl, HB1.out⟩
theorem nameOk_tab {m : ByteArray} (hm : validB m = true ∧ m.size ≤ 70368744177664) : NameOk (ofTab m) := ⟨⟨hm.2, emp_le⟩, fun W hu => checkTab_any m W hu hm.1 hm.2⟩

set_option maxRecDepth 100000 in
set_option maxHeartbeats 1000000 in
theorem ofTab_any (m : ByteArray) (w : World) : Calls Tryd.prog 29 #[.string m] w fun r w' => r = .returned (.agg #[.int .i64 4, .string m, .int .i64 0, .int .i64 0, .string ⟨#[]⟩]) ∧ Below w.heap.size w w' := by
  go_enter Tryd.func29, Tryd.ntmps29
  go_wp2
  refine bodyPost_ret (v := .agg #[.int .i64 4, .string m, .int .i64 0, .int .i64 0, .string ⟨#[]⟩]) (by simp [results, Tryd.results29, go_sem]) rfl ⟨rfl, ?_⟩
  exact (Below.refl _ _).alloc (Nat.le_refl _) _

end Go.Proofs.YtfchfjipkggnkaaDoor
