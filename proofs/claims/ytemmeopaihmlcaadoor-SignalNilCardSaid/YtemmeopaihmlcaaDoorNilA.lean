/- signal: the calls without a view; Make and Drop with a name that is not valid; Drop. -/
import Derived.Test.YtemmeopaihmlcaaDoorSigN
namespace Go.Proofs.YtemmeopaihmlcaaDoor
open Go.RowKit
attribute [local go_sem ↓] Go.wp_at_zero Go.wp_at_succ

set_option maxRecDepth 100000 in
set_option maxHeartbeats 800000 in
theorem sCheckNil_any (s : Value) (w : World) : Calls Tryd.prog 34 #[.pointer none, s] w fun r w' => r = .returned (.int .i64 1) ∧ w = w' := by
  go_enter Tryd.func34, Tryd.ntmps34
  go_wp2
  go_ret
  exact ⟨rfl, rfl⟩
def zeroRV : Value := .agg #[.int .i64 0, .int .i64 0, .int .i64 0, .int .i64 0, .int .i64 0, .int .i64 0, .int .i64 0, .int .i64 0, .int .i64 0, .int .i64 0, .int .i64 0]
set_option maxRecDepth 100000 in
set_option maxHeartbeats 800000 in
theorem sGetNil_any (who : ByteArray) (w : World) : Calls Tryd.prog 37 #[.pointer none, .string who] w fun r w' => r = .returned (.tuple #[.agg #[.int .i64 0, .int .i64 0, .int .i64 0, .int .i64 0, .int .i64 0, .int .i64 0, .int .i64 0, .int .i64 0, .int .i64 0, .int .i64 0, .int .i64 0], .int .i64 1]) ∧ Below w.heap.size w w' := by
  have HB : Hid (∀ o1 o2, Below w.heap.size w ((w.alloc o1).alloc o2)) := fun o1 o2 => ((Below.refl _ _).alloc (Nat.le_refl _) _).alloc (by simp) _
  go_enter Tryd.func37, Tryd.ntmps37
  go_wp2_with fail
  refine (sCheckNil_any _ _).mono ?_
  rintro r w1 ⟨rfl, rfl⟩
  have HR0 := Lib.hid ((Below.heap_alloc (w.alloc zObj) (.cells #[.string who] 22) _ (by simp)).trans (World.alloc_heap_new w zObj))
  have HB1 := Lib.hid (HB.out zObj (.cells #[.string who] 22))
  unfold zObj at HR0 HB1
  clear HB
  generalize (w.alloc (.cells #[.int .i64 0, .int .i64 0, .int .i64 0, .int .i64 0, .int .i64 0, .int .i64 0, .int .i64 0, .int .i64 0, .int .i64 0, .int .i64 0, .int .i64 0] 35)).alloc (.cells #[.string who] 22) = W at *
  have hR := HR0.out
  change W.heap[w.heap.size]? = some (.cells (rCells zeroR) 35 (0, 0)) at hR
  obtain ⟨r0, r1, r2, r3, r4, r5, r6, r7, r8, r9, r10⟩ := at11 hR
  obtain ⟨g0, g1, g2, g3, g4, g5, g6, g7, g8, g9, g10⟩ := free11 hR
  clear hR HR0
  dsimp only [recV, rCells, zeroR] at *
  go_wp2
  refine bodyPost_ret (v := .tuple #[.agg #[.int .i64 0, .int .i64 0, .int .i64 0, .int .i64 0, .int .i64 0, .int .i64 0, .int .i64 0, .int .i64 0, .int .i64 0, .int .i64 0, .int .i64 0], .int .i64 1]) (by simp [results, Tryd.results37, go_sem, r0, r1, r2, r3, r4, r5, r6, r7, r8, r9, r10]) rfl ?_
  exact ⟨rfl, sBelow_row HB1.out (set11_grown _ _ _ _ _ _ _ _ _ _ _ _ _) (Nat.le_refl _) (fun k hk => by cases hk; exact Nat.le_refl _)⟩

set_option maxRecDepth 100000 in
set_option maxHeartbeats 800000 in
theorem makeNil_any (a : ByteArray) (w : World) : Calls Tryd.prog 16 #[.pointer none, .string a] w fun r w' => r = .returned (.int .i64 1) ∧ Below w.heap.size w w' := by
  have HB : Hid (∀ o1, Below w.heap.size w (w.alloc o1)) := fun o1 => ((Below.refl _ _).alloc (Nat.le_refl _) _)
  go_enter Tryd.func16, Tryd.ntmps16
  go_wp2_with fail
  refine (sCheckNil_any _ _).mono ?_
  rintro r w1 ⟨rfl, rfl⟩
  go_wp2
  go_ret
  exact ⟨rfl, HB.out _⟩

set_option maxRecDepth 100000 in
set_option maxHeartbeats 800000 in
theorem dropNil_any (a : ByteArray) (w : World) : Calls Tryd.prog 17 #[.pointer none, .string a] w fun r w' => r = .returned (.int .i64 1) ∧ Below w.heap.size w w' := by
  have HB : Hid (∀ o1, Below w.heap.size w (w.alloc o1)) := fun o1 => ((Below.refl _ _).alloc (Nat.le_refl _) _)
  go_enter Tryd.func17, Tryd.ntmps17
  go_wp2_with fail
  refine (sCheckNil_any _ _).mono ?_
  rintro r w1 ⟨rfl, rfl⟩
  go_wp2
  go_ret
  exact ⟨rfl, HB.out _⟩

set_option maxRecDepth 100000 in
set_option maxHeartbeats 800000 in
theorem forkNil_any (a b : ByteArray) (w : World) : Calls Tryd.prog 41 #[.pointer none, .string a, .string b] w fun r w' => r = .returned (.int .i64 1) ∧ Below w.heap.size w w' := by
  have HB : Hid (∀ o1, Below w.heap.size w (w.alloc o1)) := fun o1 => ((Below.refl _ _).alloc (Nat.le_refl _) _)
  go_enter Tryd.func41, Tryd.ntmps41
  go_wp2_with fail
  refine (sCheckNil_any _ _).mono ?_
  rintro r w1 ⟨rfl, rfl⟩
  go_wp2
  go_ret
  exact ⟨rfl, HB.out _⟩

set_option maxRecDepth 100000 in
set_option maxHeartbeats 800000 in
theorem sendNil_any (a b : ByteArray) (n : Int) (w : World) : Calls Tryd.prog 14 #[.pointer none, .string a, .string b, .int .i64 n] w fun r w' => r = .returned (.int .i64 1) ∧ Below w.heap.size w w' := by
  have HB : Hid (∀ o1, Below w.heap.size w (w.alloc o1)) := fun o1 => ((Below.refl _ _).alloc (Nat.le_refl _) _)
  go_enter Tryd.func14, Tryd.ntmps14
  go_wp2_with fail
  refine (sCheckNil_any _ _).mono ?_
  rintro r w1 ⟨rfl, rfl⟩
  go_wp2
  go_ret
  exact ⟨rfl, HB.out _⟩

set_option maxRecDepth 100000 in
set_option maxHeartbeats 800000 in
theorem handlerNil_any (a : ByteArray) (n m : Int) (w : World) : Calls Tryd.prog 43 #[.pointer none, .string a, .int .i64 n, .int .i64 m] w fun r w' => r = .returned (.int .i64 1) ∧ Below w.heap.size w w' := by
  have HB : Hid (∀ o1 o2 o3, Below w.heap.size w (((w.alloc o1).alloc o2).alloc o3)) := fun o1 o2 o3 => ((((Below.refl _ _).alloc (Nat.le_refl _) _).alloc (by simp) _).alloc (by simp; omega) _)
  go_enter Tryd.func43, Tryd.ntmps43
  go_wp2_with fail
  refine (sCheckNil_any _ _).mono ?_
  rintro r w1 ⟨rfl, rfl⟩
  go_wp2
  go_ret
  exact ⟨rfl, HB.out _ _ _⟩

set_option maxRecDepth 100000 in
set_option maxHeartbeats 800000 in
theorem ignoredNil_any (a : ByteArray) (n : Int) (v : Bool) (w : World) : Calls Tryd.prog 44 #[.pointer none, .string a, .int .i64 n, .bool v] w fun r w' => r = .returned (.int .i64 1) ∧ Below w.heap.size w w' := by
  have HB : Hid (∀ o1 o2 o3, Below w.heap.size w (((w.alloc o1).alloc o2).alloc o3)) := fun o1 o2 o3 => ((((Below.refl _ _).alloc (Nat.le_refl _) _).alloc (by simp) _).alloc (by simp; omega) _)
  go_enter Tryd.func44, Tryd.ntmps44
  go_wp2_with fail
  refine (sCheckNil_any _ _).mono ?_
  rintro r w1 ⟨rfl, rfl⟩
  go_wp2
  go_ret
  exact ⟨rfl, HB.out _ _ _⟩

set_option maxRecDepth 100000 in
set_option maxHeartbeats 800000 in
theorem blockedNil_any (a : ByteArray) (n : Int) (w : World) : Calls Tryd.prog 45 #[.pointer none, .string a, .int .i64 n] w fun r w' => r = .returned (.int .i64 1) ∧ Below w.heap.size w w' := by
  have HB : Hid (∀ o1 o2, Below w.heap.size w ((w.alloc o1).alloc o2)) := fun o1 o2 => (((Below.refl _ _).alloc (Nat.le_refl _) _).alloc (by simp) _)
  go_enter Tryd.func45, Tryd.ntmps45
  go_wp2_with fail
  refine (sCheckNil_any _ _).mono ?_
  rintro r w1 ⟨rfl, rfl⟩
  go_wp2
  go_ret
  exact ⟨rfl, HB.out _ _⟩

set_option maxRecDepth 100000 in
set_option maxHeartbeats 800000 in
theorem changeNil_any (a : ByteArray) (f : Value) (w : World) : Calls Tryd.prog 77 #[.pointer none, .string a, f] w fun r w' => r = .returned (.int .i64 1) ∧ Below w.heap.size w w' := by
  go_enter Tryd.func77, Tryd.ntmps77
  go_wp2_with fail
  refine (sGetNil_any _ _).mono ?_
  rintro r w1 ⟨rfl, hb⟩
  have HB1 := Lib.hid hb; clear hb
  go_wp2
  go_ret
  exact ⟨rfl, HB1.out.alloc HB1.out.size _⟩

set_option maxRecDepth 100000 in
set_option maxHeartbeats 800000 in
theorem execNil_any (a : ByteArray) (w : World) : Calls Tryd.prog 42 #[.pointer none, .string a] w fun r w' => r = .returned (.int .i64 1) ∧ Below w.heap.size w w' := by
  go_enter Tryd.func42, Tryd.ntmps42
  go_wp2_with fail
  refine (changeNil_any _ _ _).mono ?_
  rintro r w1 ⟨rfl, hb⟩
  have HB1 := Lib.hid hb; clear hb
  go_wp2
  go_ret
  exact ⟨rfl, HB1.out⟩

set_option maxRecDepth 100000 in
set_option maxHeartbeats 800000 in
theorem takeNil_any (a : ByteArray) (w : World) : Calls Tryd.prog 23 #[.pointer none, .string a] w fun r w' => r = .returned (.tuple #[.int .i64 0, .int .i64 0, .int .i64 0, .int .i64 1]) ∧ Below w.heap.size w w' := by
  go_enter Tryd.func23, Tryd.ntmps23
  go_wp2_with fail
  refine (sGetNil_any _ _).mono ?_
  rintro r w1 ⟨rfl, hb⟩
  have HB1 := Lib.hid hb; clear hb
  go_wp2
  refine bodyPost_ret (v := .tuple #[.int .i64 0, .int .i64 0, .int .i64 0, .int .i64 1]) (by simp [results, Tryd.results23, go_sem]) rfl ?_
  exact ⟨rfl, HB1.out.alloc HB1.out.size _⟩

set_option maxRecDepth 100000 in
set_option maxHeartbeats 800000 in
theorem waitingNil_any (a : ByteArray) (w : World) : Calls Tryd.prog 24 #[.pointer none, .string a] w fun r w' => r = .returned (.bool false) ∧ Below w.heap.size w w' := by
  go_enter Tryd.func24, Tryd.ntmps24
  go_wp2_with fail
  refine (sGetNil_any _ _).mono ?_
  rintro r w1 ⟨rfl, hb⟩
  have HB1 := Lib.hid hb; clear hb
  go_wp2
  go_ret
  exact ⟨rfl, HB1.out.alloc HB1.out.size _⟩

set_option maxRecDepth 100000 in
set_option maxHeartbeats 1600000 in
theorem make_name (w : World) (b : Nat) (m : ByteArray) (hm : m.size ≤ 70368744177664) (hv : validB m = false) :
    Calls Tryd.prog 16 #[.pointer (some ⟨b, 0, none⟩), .string m] w fun r w' => r = .returned (.int .i64 12) ∧ Below w.heap.size w w' := by
  have Ha : Hid (∀ o, Below w.heap.size w (w.alloc o)) := fun o => (Below.refl _ _).alloc (Nat.le_refl _) _
  have HX0 : Hid (∀ v T, (w.alloc (.cells #[v] T)).cell? ⟨w.heap.size, 0, none⟩ = some v) := fun v T => cell_box _ _ _
  have Hv := Lib.hid hv; clear hv
  go_enter Tryd.func16, Tryd.ntmps16
  go_wp2_with fail
  refine (sCheck_any b w.heap.size 1 1 (fun _ => m) 12 _ (fun k hk => by obtain rfl : k = 0 := by omega
                                                                         exact HX0.out _ _) (fun _ _ => hm) (by omega) (.inl ⟨rfl, 0, by omega, Hv.out⟩)).mono ?_
  rintro r w1 ⟨rfl, hb⟩
  have HB1 : Hid (Below w.heap.size w w1) := (Ha.out _).trans (hb.mono (by simp))
  clear hb Ha HX0
  go_wp2
  go_ret
  exact ⟨rfl, HB1.out⟩

set_option maxRecDepth 100000 in
set_option maxHeartbeats 1600000 in
theorem drop_name (w : World) (b : Nat) (m : ByteArray) (hm : m.size ≤ 70368744177664) (hv : validB m = false) :
    Calls Tryd.prog 17 #[.pointer (some ⟨b, 0, none⟩), .string m] w fun r w' => r = .returned (.int .i64 12) ∧ Below w.heap.size w w' := by
  have Ha : Hid (∀ o, Below w.heap.size w (w.alloc o)) := fun o => (Below.refl _ _).alloc (Nat.le_refl _) _
  have HX0 : Hid (∀ v T, (w.alloc (.cells #[v] T)).cell? ⟨w.heap.size, 0, none⟩ = some v) := fun v T => cell_box _ _ _
  have Hv := Lib.hid hv; clear hv
  go_enter Tryd.func17, Tryd.ntmps17
  go_wp2_with fail
  refine (sCheck_any b w.heap.size 1 1 (fun _ => m) 12 _ (fun k hk => by obtain rfl : k = 0 := by omega
                                                                         exact HX0.out _ _) (fun _ _ => hm) (by omega) (.inl ⟨rfl, 0, by omega, Hv.out⟩)).mono ?_
  rintro r w1 ⟨rfl, hb⟩
  have HB1 : Hid (Below w.heap.size w w1) := (Ha.out _).trans (hb.mono (by simp))
  clear hb Ha HX0
  go_wp2
  go_ret
  exact ⟨rfl, HB1.out⟩

set_option maxRecDepth 100000 in
set_option maxHeartbeats 1600000 in
theorem srDrop (w0 w : World) (b N : Nat) (m : ByteArray) (p : RecT) (G : Nat → Prop) (s : SR w0 w b N m (some p) G) (hm : validB m = true ∧ m.size ≤ 70368744177664) (hN : N < 1000000) :
    Calls Tryd.prog 17 #[.pointer (some ⟨b, 0, none⟩), .string m] w (SRP w0 b (N + 1) m none G w (.int .i64 0)) := by
  have S0 : Hid (∀ o', SR w0 (w.alloc o') b N m (some p) G) := fun o' => s.later ((Below.refl _ _).alloc (Nat.le_refl _) _)
  have HG0 : Hid (∀ o', ∀ k, G k → (w.alloc o').heap[k]? = w.heap[k]?) := fun o' => s.gk ((Below.refl _ _).alloc (Nat.le_refl _) _)
  have HX0 : Hid (∀ v T, (w.alloc (.cells #[v] T)).cell? ⟨w.heap.size, 0, none⟩ = some v) := fun v T => cell_box _ _ _
  clear s
  go_enter Tryd.func17, Tryd.ntmps17
  go_wp2_with fail
  refine (sCheck_any b w.heap.size 1 1 (fun _ => m) 0 _ (fun k hk => by obtain rfl : k = 0 := by omega
                                                                        exact HX0.out _ _) (fun _ _ => hm.2) (by omega) (.inr ⟨rfl, fun _ _ => hm.1⟩)).mono ?_
  rintro r w1 ⟨rfl, hb⟩
  have S1 := Lib.hid ((S0.out _).later hb)
  have HG1 : Hid (∀ k, G k → w1.heap[k]? = w.heap[k]?) := fun k hk => ((S0.out _).gk hb k hk).trans (HG0.out _ k hk)
  clear hb S0 HG0 HX0
  go_wp2_with fail
  refine (ofPend_any m _).mono ?_
  rintro r w2 ⟨rfl, hb⟩
  have S2 := Lib.hid (S1.out.later hb)
  have HG2 : Hid (∀ k, G k → w2.heap[k]? = w.heap[k]?) := fun k hk => (S1.out.gk hb k hk).trans (HG1.out k hk)
  clear hb S1 HG1
  go_wp2_with fail
  refine (srVHas w0 w2 b N m (some p) G S2.out hm).mono ?_
  rintro r w3 ⟨rfl, s3, hk3⟩
  have S3 := Lib.hid s3
  have HG3 : Hid (∀ k, G k → w3.heap[k]? = w.heap[k]?) := fun k hk => (hk3 k hk).trans (HG2.out k hk)
  clear s3 hk3 S2 HG2
  dsimp only [Option.isSome]
  go_wp2_with fail
  refine (ofPend_any m _).mono ?_
  rintro r w4 ⟨rfl, hb⟩
  have S4 := Lib.hid (S3.out.later hb)
  have HG4 : Hid (∀ k, G k → w4.heap[k]? = w.heap[k]?) := fun k hk => (S3.out.gk hb k hk).trans (HG3.out k hk)
  clear hb S3 HG3
  go_wp2_with fail
  refine (srVDel w0 w4 b N m (some p) G S4.out hm hN).mono ?_
  rintro r w5 ⟨rfl, s5, hk5⟩
  have S5 := Lib.hid s5
  have HG5 : Hid (∀ k, G k → w5.heap[k]? = w.heap[k]?) := fun k hk => (hk5 k hk).trans (HG4.out k hk)
  clear s5 hk5 S4 HG4
  go_wp2
  go_ret
  exact ⟨rfl, S5.out, HG5.out⟩
end Go.Proofs.YtemmeopaihmlcaaDoor
