/- pipe: names; check, Get. -/
import Derived.Test.YtemmeopaihmlcaaGreatDoorPipB
import Derived.Test.YtemmeopaihmlcaaGreatDoorViewD
namespace Go.Proofs.YtemmeopaihmlcaaGreatDoor
open Go.RowKit
attribute [local go_sem ↓] Go.wp_at_zero Go.wp_at_succ

theorem second_new (w : World) (o1 o2 : Obj) : ((w.alloc o1).alloc o2).heap[w.heap.size + 1]? = some o2 := by have := World.alloc_heap_new (w.alloc o1) o2; rwa [World.size_alloc] at this
def ofPipe (m : ByteArray) (k : Int) : NameT := ⟨11, m, k, 0, ⟨#[]⟩⟩

set_option maxRecDepth 100000 in
set_option maxHeartbeats 2000000 in
theorem checkPipe_any (m : ByteArray) (n : Int) (w : World) (hu : Usages w) (hm : validB m = true) (hmz : m.size ≤ 70368744177664) (h0 : 0 ≤ n) (h1 : n ≤ 1073741824) :
    Calls Tryz.prog 50 #[.agg #[.int .i64 11, .string m, .int .i64 n, .int .i64 0, .string ⟨#[]⟩]] w fun r w' => r = .returned (.int .i64 0) ∧ Below w.heap.size w w' := by
  have hp := hu.pos
  obtain ⟨u0, u1, u2, u3, u4, u5⟩ := hu 11 (by decide)
  have v0 : w.cell? ⟨0, 66, none⟩ = some (.string ⟨#[112, 105, 112, 101]⟩) := u0
  have v1 : w.cell? ⟨0, 67, none⟩ = some (.bool true) := u1
  have v2 : w.cell? ⟨0, 68, none⟩ = some (.bool true) := u2
  have v3 : w.cell? ⟨0, 69, none⟩ = some (.bool false) := u3
  have v4 : w.cell? ⟨0, 70, none⟩ = some (.bool false) := u4
  have v5 : w.cell? ⟨0, 71, none⟩ = some (.int .i64 0) := u5
  clear u0 u1 u2 u3 u4 u5
  have Hu := Lib.hid hu; clear hu
  go_enter Tryz.func50, Tryz.ntmps50
  go_wp2_with fail
  refine (isKind_any 11 _ (by decide) (by decide)).mono ?_
  rintro e w1 ⟨rfl, rfl⟩
  go_wp2_with fail
  refine (valid_is m _ hmz hm _).mono ?_
  rintro e w1 ⟨rfl, hb1⟩
  have hn1 := (hb1.block w.heap.size (by simp; omega)).trans ((Below.heap_alloc _ _ _ (by simp)).trans (World.alloc_heap_new w _))
  have hu1 := (hb1.block (w.heap.size + 1) (by simp)).trans (second_new w _ _)
  have q2 : w1.cell? ⟨w.heap.size, 2, none⟩ = some (.int .i64 n) := cell_of_heap hn1 2
  have t2 : w1.cell? ⟨w.heap.size + 1, 2, none⟩ = some (.bool true) := cell_of_heap hu1 2
  have t3 : w1.cell? ⟨w.heap.size + 1, 3, none⟩ = some (.bool false) := cell_of_heap hu1 3
  have t4 : w1.cell? ⟨w.heap.size + 1, 4, none⟩ = some (.bool false) := cell_of_heap hu1 4
  have HB1 : Hid (Below w.heap.size w w1) := (((Below.refl _ _).alloc (Nat.le_refl _) _).alloc (by simp) _).trans (hb1.mono (by simp; omega))
  clear hb1 hn1 hu1 v0 v1 v2 v3 v4 v5
  go_wp2_with fail
  refine (oWithin_any n 1073741824 _).mono ?_
  rintro e w2 ⟨rfl, rfl⟩
  rw [show decide (0 ≤ n ∧ n ≤ 1073741824) = true by simp [h0, h1]]
  go_wp2
  go_ret
  exact ⟨rfl, HB1.out⟩
theorem nameOk_pipe {m : ByteArray} {k : Int} (hm : validB m = true) (hz : m.size ≤ 70368744177664) (h0 : 0 ≤ k) (h1 : k ≤ 1073741824) : NameOk (ofPipe m k) := ⟨⟨hz, emp_le⟩, fun W hu => checkPipe_any m k W hu hm hz h0 h1⟩

set_option maxRecDepth 100000 in
set_option maxHeartbeats 1000000 in
theorem ofBirth_any (kind : Int) (m : ByteArray) (k : Int) (w : World) : Calls Tryz.prog 78 #[.int .i64 kind, .agg #[.string m, .int .i64 k]] w fun r w' => r = .returned (.agg #[.int .i64 kind, .string m, .int .i64 k, .int .i64 0, .string ⟨#[]⟩]) ∧ Below w.heap.size w w' := by
  go_enter Tryz.func78, Tryz.ntmps78
  go_wp2
  refine bodyPost_ret (v := .agg #[.int .i64 kind, .string m, .int .i64 k, .int .i64 0, .string ⟨#[]⟩]) (by simp [results, Tryz.results78, go_sem]) rfl ⟨rfl, ?_⟩
  exact ((Below.refl _ _).alloc (Nat.le_refl _) _).alloc (by simp) _
set_option maxRecDepth 100000 in
set_option maxHeartbeats 1000000 in
theorem ofPipe_any (m : ByteArray) (k : Int) (w : World) : Calls Tryz.prog 27 #[.agg #[.string m, .int .i64 k]] w fun r w' => r = .returned (.agg #[.int .i64 11, .string m, .int .i64 k, .int .i64 0, .string ⟨#[]⟩]) ∧ Below w.heap.size w w' := by
  go_enter Tryz.func27, Tryz.ntmps27
  go_wp2_with fail
  refine (ofBirth_any 11 m k _).mono ?_
  rintro e w1 ⟨rfl, hb1⟩
  have hR := (hb1.block (w.heap.size + 1) (by simp)).trans (second_new w _ _)
  have r0 : w1.cell? ⟨w.heap.size + 1, 0, none⟩ = some (.int .i64 0) := cell_of_heap hR 0
  have r1 : w1.cell? ⟨w.heap.size + 1, 1, none⟩ = some (.string ⟨#[]⟩) := cell_of_heap hR 1
  have r2 : w1.cell? ⟨w.heap.size + 1, 2, none⟩ = some (.int .i64 0) := cell_of_heap hR 2
  have r3 : w1.cell? ⟨w.heap.size + 1, 3, none⟩ = some (.int .i64 0) := cell_of_heap hR 3
  have r4 : w1.cell? ⟨w.heap.size + 1, 4, none⟩ = some (.string ⟨#[]⟩) := cell_of_heap hR 4
  have g0 : w1.frozen? ⟨w.heap.size + 1, 0, none⟩ = false := frozen_of_heap hR 0
  have g1 : w1.frozen? ⟨w.heap.size + 1, 1, none⟩ = false := frozen_of_heap hR 1
  have g2 : w1.frozen? ⟨w.heap.size + 1, 2, none⟩ = false := frozen_of_heap hR 2
  have g3 : w1.frozen? ⟨w.heap.size + 1, 3, none⟩ = false := frozen_of_heap hR 3
  have g4 : w1.frozen? ⟨w.heap.size + 1, 4, none⟩ = false := frozen_of_heap hR 4
  have HB1 : Hid (Below w.heap.size w w1) := (((Below.refl _ _).alloc (Nat.le_refl _) _).alloc (by simp) _).trans (hb1.mono (by simp; omega))
  clear hb1 hR
  go_wp2
  refine bodyPost_ret (v := .agg #[.int .i64 11, .string m, .int .i64 k, .int .i64 0, .string ⟨#[]⟩]) (by simp [results, Tryz.results27, go_sem, r0, r1, r2, r3, r4]) rfl ⟨rfl, ?_⟩
  exact (((((HB1.out.setCell (by simp) _).setCell (by simp) _).setCell (by simp) _).setCell (by simp) _).setCell (by simp) _)

def birthB (m : ByteArray) (k : Int) : Nat := if validB m = false then 12 else if 0 ≤ k ∧ k ≤ 1073741824 then 0 else 2
set_option maxRecDepth 100000 in
set_option maxHeartbeats 1000000 in
theorem birth_any (m : ByteArray) (k : Int) (w : World) (hmz : m.size ≤ 70368744177664) : Calls Tryz.prog 33 #[.agg #[.string m, .int .i64 k]] w fun r w' => r = .returned (.int .i64 (birthB m k)) ∧ Below w.heap.size w w' := by
  have Ha : Hid (∀ o, Below w.heap.size w (w.alloc o)) := fun o => (Below.refl _ _).alloc (Nat.le_refl _) _
  cases h1 : validB m with
  | false =>
    have he : Hid (birthB m k = 12) := by show _ = _; simp [birthB, h1]
    go_enter Tryz.func33, Tryz.ntmps33
    go_wp2_with fail
    refine (valid_is m _ hmz h1 _).mono ?_
    rintro e w1 ⟨rfl, hb1⟩
    have HB1 : Hid (Below w.heap.size w w1) := (Ha.out _).trans (hb1.mono (by simp))
    clear hb1
    go_wp2
    go_ret
    rw [he.out]
    exact ⟨rfl, HB1.out⟩
  | true =>
    go_enter Tryz.func33, Tryz.ntmps33
    go_wp2_with fail
    refine (valid_is m _ hmz h1 _).mono ?_
    rintro e w1 ⟨rfl, hb1⟩
    have HB1 : Hid (Below w.heap.size w w1) := (Ha.out _).trans (hb1.mono (by simp))
    have c1 : w1.cell? ⟨w.heap.size, 1, none⟩ = some (.int .i64 k) := ((bcell hb1).1 _ _ (by simp)).trans (cell_of_heap (World.alloc_heap_new w _) 1)
    clear hb1
    go_wp2_with fail
    refine (oWithin_any k 1073741824 _).mono ?_
    rintro e w2 ⟨rfl, rfl⟩
    by_cases h2 : 0 ≤ k ∧ k ≤ 1073741824
    · have he : Hid (birthB m k = 0) := by show _ = _; simp [birthB, h1, h2]
      rw [decide_eq_true h2]
      go_wp2
      go_ret
      rw [he.out]
      exact ⟨rfl, HB1.out⟩
    · have he : Hid (birthB m k = 2) := by show _ = _; simp [birthB, h1, h2]
      rw [decide_eq_false h2]
      clear h2
      go_wp2
      go_ret
      rw [he.out]
      exact ⟨rfl, HB1.out⟩

/-- What check answers where there is a view. -/
def pArgs (m : ByteArray) (k e : Int) : Nat := if birthB m k ≠ 0 then birthB m k else if pEpochB e = false then 2 else 0
set_option maxRecDepth 100000 in
set_option maxHeartbeats 1000000 in
theorem pArgs_any (b : Nat) (m : ByteArray) (k e : Int) (q : Nat) (hq : pArgs m k e = q) (w : World) (hmz : m.size ≤ 70368744177664) : Calls Tryz.prog 81 #[.pointer (some ⟨b, 0, none⟩), .agg #[.string m, .int .i64 k], .int .i64 e] w fun r w' => r = .returned (.int .i64 q) ∧ Below w.heap.size w w' := by
  subst hq
  have Ha : Hid (∀ o, Below w.heap.size w (w.alloc o)) := fun o => (Below.refl _ _).alloc (Nat.le_refl _) _
  have Hb : Hid (∀ o, Calls Tryz.prog 33 #[.agg #[.string m, .int .i64 k]] (w.alloc o) fun r w' => r = .returned (.int .i64 (birthB m k)) ∧ Below (w.alloc o).heap.size (w.alloc o) w') := fun o => birth_any m k _ hmz
  have Hpa : Hid (pArgs m k e = if birthB m k ≠ 0 then birthB m k else if pEpochB e = false then 2 else 0) := rfl
  generalize birthB m k = q at *
  by_cases h0 : q = 0
  · subst h0
    cases h2 : pEpochB e with
    | false =>
      have he : Hid (pArgs m k e = 2) := by show _ = _; rw [Hpa.out]; simp [h2]
      go_enter Tryz.func81, Tryz.ntmps81
      go_wp2_with fail
      refine (Hb.out _).mono ?_
      rintro e1 w1 ⟨rfl, hb1⟩
      have HB1 : Hid (Below w.heap.size w w1) := (Ha.out _).trans (hb1.mono (by simp))
      clear hb1
      go_wp2_with fail
      refine (pEpoch_is e _ h2 _).mono ?_
      rintro e1 w2 ⟨rfl, rfl⟩
      go_wp2
      go_ret
      rw [he.out]
      exact ⟨rfl, HB1.out⟩
    | true =>
      have he : Hid (pArgs m k e = 0) := by show _ = _; rw [Hpa.out]; simp [h2]
      go_enter Tryz.func81, Tryz.ntmps81
      go_wp2_with fail
      refine (Hb.out _).mono ?_
      rintro e1 w1 ⟨rfl, hb1⟩
      have HB1 : Hid (Below w.heap.size w w1) := (Ha.out _).trans (hb1.mono (by simp))
      clear hb1
      go_wp2_with fail
      refine (pEpoch_is e _ h2 _).mono ?_
      rintro e1 w2 ⟨rfl, rfl⟩
      go_wp2
      go_ret
      rw [he.out]
      exact ⟨rfl, HB1.out⟩
  · have he : Hid (pArgs m k e = q) := by show _ = _; rw [Hpa.out]; simp [h0]
    have h0' : ((q : Int) != 0) = true := bne_iff_ne.2 (by omega)
    clear h0
    go_enter Tryz.func81, Tryz.ntmps81
    go_wp2_with fail
    refine (Hb.out _).mono ?_
    rintro e1 w1 ⟨rfl, hb1⟩
    have HB1 : Hid (Below w.heap.size w w1) := (Ha.out _).trans (hb1.mono (by simp))
    clear hb1
    go_wp2
    go_ret
    rw [he.out]
    exact ⟨rfl, HB1.out⟩
theorem pArgs_ok {m : ByteArray} {k e : Int} (h : pArgs m k e = 0) : validB m = true ∧ (0 ≤ k ∧ k ≤ 1073741824) ∧ pEpochB e = true := by
  unfold pArgs at h
  split at h
  · contradiction
  rename_i h1
  split at h
  · cases h
  rename_i h2
  have h1' : birthB m k = 0 := by simpa using h1
  unfold birthB at h1'
  split at h1'
  · cases h1'
  rename_i h3
  split at h1'
  · rename_i h4
    exact ⟨by simpa using h3, h4, by simpa using h2⟩
  · cases h1'

end Go.Proofs.YtemmeopaihmlcaaGreatDoor
