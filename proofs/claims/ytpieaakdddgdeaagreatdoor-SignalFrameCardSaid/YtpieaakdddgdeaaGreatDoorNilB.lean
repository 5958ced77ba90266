/- signal: the calls without a view; Make and Drop with a name that is not valid; Drop. Law 33: an operation without a view. -/
import Derived.Test.YtpieaakdddgdeaaGreatDoorSigN
import Derived.Deep.RegionHeld3
import Derived.Deep.QuietTactic
import Derived.BigQuiet
import Derived.BigRegion
namespace Go.Proofs.YtpieaakdddgdeaaGreatDoor
open Go.RowKit
attribute [local go_sem ↓] Go.wp_at_zero Go.wp_at_succ

set_option maxRecDepth 100000 in
set_option maxHeartbeats 800000 in
theorem sCheckNil_any (s : Value) (w : World) : Calls Tryz.prog 46 #[.pointer none, s] w fun r w' => r = .returned (.int .i64 1) ∧ w = w' := by
  go_enter Tryz.func46, Tryz.ntmps46
  go_wp2
  go_ret
  exact ⟨rfl, rfl⟩
def zeroRV : Value := .agg #[.int .i64 0, .int .i64 0, .int .i64 0, .int .i64 0, .int .i64 0, .int .i64 0, .int .i64 0, .int .i64 0, .int .i64 0, .int .i64 0, .int .i64 0]
set_option maxRecDepth 100000 in
set_option maxHeartbeats 800000 in
theorem sGetNil_any (who : ByteArray) (w : World) : Calls Tryz.prog 14 #[.pointer none, .string who] w fun r w' => r = .returned (.tuple #[.agg #[.int .i64 0, .int .i64 0, .int .i64 0, .int .i64 0, .int .i64 0, .int .i64 0, .int .i64 0, .int .i64 0, .int .i64 0, .int .i64 0, .int .i64 0], .int .i64 1]) ∧ Below w.heap.size w w' := by
  have HB : Hid (∀ o1 o2, Below w.heap.size w ((w.alloc o1).alloc o2)) := fun o1 o2 => ((Below.refl _ _).alloc (Nat.le_refl _) _).alloc (by simp) _
  go_enter Tryz.func14, Tryz.ntmps14
  go_wp2_with fail
  refine (sCheckNil_any _ _).mono ?_
  rintro r w1 ⟨rfl, rfl⟩
  have HR0 := Lib.hid ((Below.heap_alloc (w.alloc zObj) (.cells #[.string who] 34) _ (by simp)).trans (World.alloc_heap_new w zObj))
  have HB1 := Lib.hid (HB.out zObj (.cells #[.string who] 34))
  unfold zObj at HR0 HB1
  clear HB
  generalize (w.alloc (.cells #[.int .i64 0, .int .i64 0, .int .i64 0, .int .i64 0, .int .i64 0, .int .i64 0, .int .i64 0, .int .i64 0, .int .i64 0, .int .i64 0, .int .i64 0] 30)).alloc (.cells #[.string who] 34) = W at *
  have hR := HR0.out
  change W.heap[w.heap.size]? = some (.cells (rCells zeroR) 30 (0, 0)) at hR
  obtain ⟨r0, r1, r2, r3, r4, r5, r6, r7, r8, r9, r10⟩ := at11 hR
  obtain ⟨g0, g1, g2, g3, g4, g5, g6, g7, g8, g9, g10⟩ := free11 hR
  clear hR HR0
  dsimp only [recV, rCells, zeroR] at *
  go_wp2
  refine bodyPost_ret (v := .tuple #[.agg #[.int .i64 0, .int .i64 0, .int .i64 0, .int .i64 0, .int .i64 0, .int .i64 0, .int .i64 0, .int .i64 0, .int .i64 0, .int .i64 0, .int .i64 0], .int .i64 1]) (by simp [results, Tryz.results14, go_sem, r0, r1, r2, r3, r4, r5, r6, r7, r8, r9, r10]) rfl ?_
  exact ⟨rfl, sBelow_row HB1.out (set11_grown _ _ _ _ _ _ _ _ _ _ _ _ _) (Nat.le_refl _) (fun k hk => by cases hk; exact Nat.le_refl _)⟩

set_option maxRecDepth 100000 in
set_option maxHeartbeats 800000 in
theorem makeNil_any (a : ByteArray) (w : World) : Calls Tryz.prog 44 #[.pointer none, .string a] w fun r w' => r = .returned (.int .i64 1) ∧ Below w.heap.size w w' := by
  have HB : Hid (∀ o1, Below w.heap.size w (w.alloc o1)) := fun o1 => ((Below.refl _ _).alloc (Nat.le_refl _) _)
  go_enter Tryz.func44, Tryz.ntmps44
  go_wp2_with fail
  refine (sCheckNil_any _ _).mono ?_
  rintro r w1 ⟨rfl, rfl⟩
  go_wp2
  go_ret
  exact ⟨rfl, HB.out _⟩

set_option maxRecDepth 100000 in
set_option maxHeartbeats 800000 in
theorem dropNil_any (a : ByteArray) (w : World) : Calls Tryz.prog 63 #[.pointer none, .string a] w fun r w' => r = .returned (.int .i64 1) ∧ Below w.heap.size w w' := by
  have HB : Hid (∀ o1, Below w.heap.size w (w.alloc o1)) := fun o1 => ((Below.refl _ _).alloc (Nat.le_refl _) _)
  go_enter Tryz.func63, Tryz.ntmps63
  go_wp2_with fail
  refine (sCheckNil_any _ _).mono ?_
  rintro r w1 ⟨rfl, rfl⟩
  go_wp2
  go_ret
  exact ⟨rfl, HB.out _⟩

set_option maxRecDepth 100000 in
set_option maxHeartbeats 800000 in
theorem forkNil_any (a b : ByteArray) (w : World) : Calls Tryz.prog 62 #[.pointer none, .string a, .string b] w fun r w' => r = .returned (.int .i64 1) ∧ Below w.heap.size w w' := by
  have HB : Hid (∀ o1, Below w.heap.size w (w.alloc o1)) := fun o1 => ((Below.refl _ _).alloc (Nat.le_refl _) _)
  go_enter Tryz.func62, Tryz.ntmps62
  go_wp2_with fail
  refine (sCheckNil_any _ _).mono ?_
  rintro r w1 ⟨rfl, rfl⟩
  go_wp2
  go_ret
  exact ⟨rfl, HB.out _⟩

set_option maxRecDepth 100000 in
set_option maxHeartbeats 800000 in
theorem sendNil_any (a b : ByteArray) (n : Int) (w : World) : Calls Tryz.prog 15 #[.pointer none, .string a, .string b, .int .i64 n] w fun r w' => r = .returned (.int .i64 1) ∧ Below w.heap.size w w' := by
  have HB : Hid (∀ o1, Below w.heap.size w (w.alloc o1)) := fun o1 => ((Below.refl _ _).alloc (Nat.le_refl _) _)
  go_enter Tryz.func15, Tryz.ntmps15
  go_wp2_with fail
  refine (sCheckNil_any _ _).mono ?_
  rintro r w1 ⟨rfl, rfl⟩
  go_wp2
  go_ret
  exact ⟨rfl, HB.out _⟩

set_option maxRecDepth 100000 in
set_option maxHeartbeats 800000 in
theorem handlerNil_any (a : ByteArray) (n m : Int) (w : World) : Calls Tryz.prog 65 #[.pointer none, .string a, .int .i64 n, .int .i64 m] w fun r w' => r = .returned (.int .i64 1) ∧ Below w.heap.size w w' := by
  have HB : Hid (∀ o1 o2 o3, Below w.heap.size w (((w.alloc o1).alloc o2).alloc o3)) := fun o1 o2 o3 => ((((Below.refl _ _).alloc (Nat.le_refl _) _).alloc (by simp) _).alloc (by simp; omega) _)
  go_enter Tryz.func65, Tryz.ntmps65
  go_wp2_with fail
  refine (sCheckNil_any _ _).mono ?_
  rintro r w1 ⟨rfl, rfl⟩
  go_wp2
  go_ret
  exact ⟨rfl, HB.out _ _ _⟩

set_option maxRecDepth 100000 in
set_option maxHeartbeats 800000 in
theorem ignoredNil_any (a : ByteArray) (n : Int) (v : Bool) (w : World) : Calls Tryz.prog 66 #[.pointer none, .string a, .int .i64 n, .bool v] w fun r w' => r = .returned (.int .i64 1) ∧ Below w.heap.size w w' := by
  have HB : Hid (∀ o1 o2 o3, Below w.heap.size w (((w.alloc o1).alloc o2).alloc o3)) := fun o1 o2 o3 => ((((Below.refl _ _).alloc (Nat.le_refl _) _).alloc (by simp) _).alloc (by simp; omega) _)
  go_enter Tryz.func66, Tryz.ntmps66
  go_wp2_with fail
  refine (sCheckNil_any _ _).mono ?_
  rintro r w1 ⟨rfl, rfl⟩
  go_wp2
  go_ret
  exact ⟨rfl, HB.out _ _ _⟩

set_option maxRecDepth 100000 in
set_option maxHeartbeats 800000 in
theorem blockedNil_any (a : ByteArray) (n : Int) (w : World) : Calls Tryz.prog 67 #[.pointer none, .string a, .int .i64 n] w fun r w' => r = .returned (.int .i64 1) ∧ Below w.heap.size w w' := by
  have HB : Hid (∀ o1 o2, Below w.heap.size w ((w.alloc o1).alloc o2)) := fun o1 o2 => (((Below.refl _ _).alloc (Nat.le_refl _) _).alloc (by simp) _)
  go_enter Tryz.func67, Tryz.ntmps67
  go_wp2_with fail
  refine (sCheckNil_any _ _).mono ?_
  rintro r w1 ⟨rfl, rfl⟩
  go_wp2
  go_ret
  exact ⟨rfl, HB.out _ _⟩

set_option maxRecDepth 100000 in
set_option maxHeartbeats 800000 in
theorem changeNil_any (a : ByteArray) (f : Value) (w : World) : Calls Tryz.prog 124 #[.pointer none, .string a, f] w fun r w' => r = .returned (.int .i64 1) ∧ Below w.heap.size w w' := by
  go_enter Tryz.func124, Tryz.ntmps124
  go_wp2_with fail
  refine (sGetNil_any _ _).mono ?_
  rintro r w1 ⟨rfl, hb⟩
  have HB1 := Lib.hid hb; clear hb
  go_wp2
  go_ret
  exact ⟨rfl, HB1.out.alloc HB1.out.size _⟩

set_option maxRecDepth 100000 in
set_option maxHeartbeats 800000 in
theorem execNil_any (a : ByteArray) (w : World) : Calls Tryz.prog 64 #[.pointer none, .string a] w fun r w' => r = .returned (.int .i64 1) ∧ Below w.heap.size w w' := by
  go_enter Tryz.func64, Tryz.ntmps64
  go_wp2_with fail
  refine (changeNil_any _ _ _).mono ?_
  rintro r w1 ⟨rfl, hb⟩
  have HB1 := Lib.hid hb; clear hb
  go_wp2
  go_ret
  exact ⟨rfl, HB1.out⟩

set_option maxRecDepth 100000 in
set_option maxHeartbeats 800000 in
theorem takeNil_any (a : ByteArray) (w : World) : Calls Tryz.prog 16 #[.pointer none, .string a] w fun r w' => r = .returned (.tuple #[.int .i64 0, .int .i64 0, .int .i64 0, .int .i64 1]) ∧ Below w.heap.size w w' := by
  go_enter Tryz.func16, Tryz.ntmps16
  go_wp2_with fail
  refine (sGetNil_any _ _).mono ?_
  rintro r w1 ⟨rfl, hb⟩
  have HB1 := Lib.hid hb; clear hb
  go_wp2
  refine bodyPost_ret (v := .tuple #[.int .i64 0, .int .i64 0, .int .i64 0, .int .i64 1]) (by simp [results, Tryz.results16, go_sem]) rfl ?_
  exact ⟨rfl, HB1.out.alloc HB1.out.size _⟩

set_option maxRecDepth 100000 in
set_option maxHeartbeats 800000 in
theorem waitingNil_any (a : ByteArray) (w : World) : Calls Tryz.prog 45 #[.pointer none, .string a] w fun r w' => r = .returned (.bool false) ∧ Below w.heap.size w w' := by
  go_enter Tryz.func45, Tryz.ntmps45
  go_wp2_with fail
  refine (sGetNil_any _ _).mono ?_
  rintro r w1 ⟨rfl, hb⟩
  have HB1 := Lib.hid hb; clear hb
  go_wp2
  go_ret
  exact ⟨rfl, HB1.out.alloc HB1.out.size _⟩

set_option maxRecDepth 100000 in
set_option maxHeartbeats 1600000 in
theorem make_name (w : World) (b : Nat) (m : ByteArray) (hm : m.size ≤ 70368744177664) (hv : validB m = false) :
    Calls Tryz.prog 44 #[.pointer (some ⟨b, 0, none⟩), .string m] w fun r w' => r = .returned (.int .i64 12) ∧ Below w.heap.size w w' := by
  have Ha : Hid (∀ o, Below w.heap.size w (w.alloc o)) := fun o => (Below.refl _ _).alloc (Nat.le_refl _) _
  have HX0 : Hid (∀ v T, (w.alloc (.cells #[v] T)).cell? ⟨w.heap.size, 0, none⟩ = some v) := fun v T => cell_box _ _ _
  have Hv := Lib.hid hv; clear hv
  go_enter Tryz.func44, Tryz.ntmps44
  go_wp2_with fail
  refine (sCheck_any b w.heap.size 1 1 (fun _ => m) 12 _ (fun k hk => by obtain rfl : k = 0 := by omega
                                                                         exact HX0.out _ _) (fun _ _ => hm) (by omega) (.inl ⟨rfl, 0, by omega, Hv.out⟩)).mono ?_
  rintro r w1 ⟨rfl, hb⟩
  have HB1 : Hid (Below w.heap.size w w1) := (Ha.out _).trans (hb.mono (by simp))
  clear hb Ha HX0
  go_wp2
  go_ret
  exact ⟨rfl, HB1.out⟩

set_option maxRecDepth 100000 in
set_option maxHeartbeats 1600000 in
theorem drop_name (w : World) (b : Nat) (m : ByteArray) (hm : m.size ≤ 70368744177664) (hv : validB m = false) :
    Calls Tryz.prog 63 #[.pointer (some ⟨b, 0, none⟩), .string m] w fun r w' => r = .returned (.int .i64 12) ∧ Below w.heap.size w w' := by
  have Ha : Hid (∀ o, Below w.heap.size w (w.alloc o)) := fun o => (Below.refl _ _).alloc (Nat.le_refl _) _
  have HX0 : Hid (∀ v T, (w.alloc (.cells #[v] T)).cell? ⟨w.heap.size, 0, none⟩ = some v) := fun v T => cell_box _ _ _
  have Hv := Lib.hid hv; clear hv
  go_enter Tryz.func63, Tryz.ntmps63
  go_wp2_with fail
  refine (sCheck_any b w.heap.size 1 1 (fun _ => m) 12 _ (fun k hk => by obtain rfl : k = 0 := by omega
                                                                         exact HX0.out _ _) (fun _ _ => hm) (by omega) (.inl ⟨rfl, 0, by omega, Hv.out⟩)).mono ?_
  rintro r w1 ⟨rfl, hb⟩
  have HB1 : Hid (Below w.heap.size w w1) := (Ha.out _).trans (hb.mono (by simp))
  clear hb Ha HX0
  go_wp2
  go_ret
  exact ⟨rfl, HB1.out⟩

set_option maxRecDepth 100000 in
set_option maxHeartbeats 1600000 in
theorem srDrop (w0 w : World) (b N : Nat) (m : ByteArray) (p : RecT) (G : Nat → Prop) (s : SR w0 w b N m (some p) G) (hm : validB m = true ∧ m.size ≤ 70368744177664) (hN : N < 1000000) :
    Calls Tryz.prog 63 #[.pointer (some ⟨b, 0, none⟩), .string m] w (SRP w0 b (N + 1) m none G w (.int .i64 0)) := by
  have S0 : Hid (∀ o', SR w0 (w.alloc o') b N m (some p) G) := fun o' => s.later ((Below.refl _ _).alloc (Nat.le_refl _) _)
  have HG0 : Hid (∀ o', ∀ k, G k → (w.alloc o').heap[k]? = w.heap[k]?) := fun o' => s.gk ((Below.refl _ _).alloc (Nat.le_refl _) _)
  have HX0 : Hid (∀ v T, (w.alloc (.cells #[v] T)).cell? ⟨w.heap.size, 0, none⟩ = some v) := fun v T => cell_box _ _ _
  clear s
  go_enter Tryz.func63, Tryz.ntmps63
  go_wp2_with fail
  refine (sCheck_any b w.heap.size 1 1 (fun _ => m) 0 _ (fun k hk => by obtain rfl : k = 0 := by omega
                                                                        exact HX0.out _ _) (fun _ _ => hm.2) (by omega) (.inr ⟨rfl, fun _ _ => hm.1⟩)).mono ?_
  rintro r w1 ⟨rfl, hb⟩
  have S1 := Lib.hid ((S0.out _).later hb)
  have HG1 : Hid (∀ k, G k → w1.heap[k]? = w.heap[k]?) := fun k hk => ((S0.out _).gk hb k hk).trans (HG0.out _ k hk)
  clear hb S0 HG0 HX0
  go_wp2_with fail
  refine (ofPend_any m _).mono ?_
  rintro r w2 ⟨rfl, hb⟩
  have S2 := Lib.hid (S1.out.later hb)
  have HG2 : Hid (∀ k, G k → w2.heap[k]? = w.heap[k]?) := fun k hk => (S1.out.gk hb k hk).trans (HG1.out k hk)
  clear hb S1 HG1
  go_wp2_with fail
  refine (srVHas w0 w2 b N m (some p) G S2.out hm).mono ?_
  rintro r w3 ⟨rfl, s3, hk3⟩
  have S3 := Lib.hid s3
  have HG3 : Hid (∀ k, G k → w3.heap[k]? = w.heap[k]?) := fun k hk => (hk3 k hk).trans (HG2.out k hk)
  clear s3 hk3 S2 HG2
  dsimp only [Option.isSome]
  go_wp2_with fail
  refine (ofPend_any m _).mono ?_
  rintro r w4 ⟨rfl, hb⟩
  have S4 := Lib.hid (S3.out.later hb)
  have HG4 : Hid (∀ k, G k → w4.heap[k]? = w.heap[k]?) := fun k hk => (S3.out.gk hb k hk).trans (HG3.out k hk)
  clear hb S3 HG3
  go_wp2_with fail
  refine (srVDel w0 w4 b N m (some p) G S4.out hm hN).mono ?_
  rintro r w5 ⟨rfl, s5, hk5⟩
  have S5 := Lib.hid s5
  have HG5 : Hid (∀ k, G k → w5.heap[k]? = w.heap[k]?) := fun k hk => (hk5 k hk).trans (HG4.out k hk)
  clear s5 hk5 S4 HG4
  go_wp2
  go_ret
  exact ⟨rfl, S5.out, HG5.out⟩
end Go.Proofs.YtpieaakdddgdeaaGreatDoor

namespace Go.Proofs.YtpieaakdddgdeaaGreatDoor
open Go.RowKit
attribute [local go_sem ↓] Go.wp_at_zero Go.wp_at_succ

def whoS (k : Nat) : ByteArray := if k % 6 = 0 then ⟨#[]⟩ else if k % 6 = 1 then ⟨#[49]⟩ else if k % 6 = 2 then ⟨#[49, 46, 49]⟩ else if k % 6 = 3 then ⟨#[49, 46, 50]⟩ else if k % 6 = 4 then ⟨#[49, 46, 50, 46, 49]⟩ else ⟨#[50]⟩
set_option maxRecDepth 100000 in
set_option maxHeartbeats 1600000 in
theorem whoS_any (k : Nat) (w : World) (hk : k ≤ 255) : Calls Tryz.prog 24 #[.int .u8 k] w fun r w' => r = .returned (.string (whoS k)) ∧ Below w.heap.size w w' := by
  have HB : Hid (∀ o1, Below w.heap.size w (w.alloc o1)) := fun o1 => (Below.refl _ _).alloc (Nat.le_refl _) _
  have h6 : k % 6 = 0 ∨ k % 6 = 1 ∨ k % 6 = 2 ∨ k % 6 = 3 ∨ k % 6 = 4 ∨ k % 6 = 5 := by omega
  rcases h6 with h | h | h | h | h | h
  · have he : Hid (whoS k = ⟨#[]⟩) := by show _ = _; simp [whoS, h]
    have h' : (k : Int) % 6 = 0 := by omega
    clear h
    go_enter Tryz.func24, Tryz.ntmps24
    go_wp2
    go_ret
    rw [he.out]
    exact ⟨rfl, HB.out _⟩
  · have he : Hid (whoS k = ⟨#[49]⟩) := by show _ = _; simp [whoS, h]
    have h' : (k : Int) % 6 = 1 := by omega
    clear h
    go_enter Tryz.func24, Tryz.ntmps24
    go_wp2
    go_ret
    rw [he.out]
    exact ⟨rfl, HB.out _⟩
  · have he : Hid (whoS k = ⟨#[49, 46, 49]⟩) := by show _ = _; simp [whoS, h]
    have h' : (k : Int) % 6 = 2 := by omega
    clear h
    go_enter Tryz.func24, Tryz.ntmps24
    go_wp2
    go_ret
    rw [he.out]
    exact ⟨rfl, HB.out _⟩
  · have he : Hid (whoS k = ⟨#[49, 46, 50]⟩) := by show _ = _; simp [whoS, h]
    have h' : (k : Int) % 6 = 3 := by omega
    clear h
    go_enter Tryz.func24, Tryz.ntmps24
    go_wp2
    go_ret
    rw [he.out]
    exact ⟨rfl, HB.out _⟩
  · have he : Hid (whoS k = ⟨#[49, 46, 50, 46, 49]⟩) := by show _ = _; simp [whoS, h]
    have h' : (k : Int) % 6 = 4 := by omega
    clear h
    go_enter Tryz.func24, Tryz.ntmps24
    go_wp2
    go_ret
    rw [he.out]
    exact ⟨rfl, HB.out _⟩
  · have he : Hid (whoS k = ⟨#[50]⟩) := by show _ = _; simp [whoS, h]
    have h' : (k : Int) % 6 = 5 := by omega
    clear h
    go_enter Tryz.func24, Tryz.ntmps24
    go_wp2
    go_ret
    rw [he.out]
    exact ⟨rfl, HB.out _⟩

/-- In the midst of call: the operation, the result's box, the result at Z. -/
structure CB (w W : World) (Z : Nat) (opc rc : Array Value) : Prop where
  op : W.heap[w.heap.size]? = some (.cells opc 40 (0, 0))
  out : W.heap[w.heap.size + 1]? = some (.cells #[.int .i64 0, .int .i64 0, .int .i64 0, .bool false, .int .i64 0] 49 (0, 0))
  res : W.heap[Z]? = some (.cells rc 49 (0, 0))
  lt : w.heap.size + 1 < Z
  low : Below w.heap.size w W
section
variable {w W W' : World} {Z : Nat} {opc rc : Array Value}
theorem CB.later (h : CB w W Z opc rc) (hb : Below W.heap.size W W') : CB w W' Z opc rc :=
  ⟨(hb.block _ (lt_of_heap h.op)).trans h.op, (hb.block _ (lt_of_heap h.out)).trans h.out, (hb.block _ (lt_of_heap h.res)).trans h.res, h.lt, h.low.trans (hb.mono h.low.size)⟩
theorem CB.set (h : CB w W Z opc rc) (i : Nat) (v : Value) (rc' : Array Value) (he : rc.setIfInBounds i v = rc') : CB w (W.setCell ⟨Z, i, none⟩ v) Z opc rc' :=
  ⟨(Below.heap_setCell _ _ _ _ (by show w.heap.size ≠ Z; have := h.lt; omega)).trans h.op, (Below.heap_setCell _ _ _ _ (by show w.heap.size + 1 ≠ Z; have := h.lt; omega)).trans h.out, by rw [← he]; exact heap_setCell_same h.res i v, h.lt, Below.grownRow h.low (grown_setCell _ _ _ _) (Nat.le_refl _) (fun k hk => by cases hk; have := h.lt; omega)⟩
/-- Before the result is made. -/
structure CB0 (w W : World) (opc : Array Value) : Prop where
  op : W.heap[w.heap.size]? = some (.cells opc 40 (0, 0))
  out : W.heap[w.heap.size + 1]? = some (.cells #[.int .i64 0, .int .i64 0, .int .i64 0, .bool false, .int .i64 0] 49 (0, 0))
  low : Below w.heap.size w W
theorem CB0.start (w : World) (opc : Array Value) : CB0 w ((w.alloc (.cells opc 40)).alloc (.cells #[.int .i64 0, .int .i64 0, .int .i64 0, .bool false, .int .i64 0] 49)) opc where
  op := (Below.heap_alloc _ _ _ (by simp)).trans (World.alloc_heap_new w _)
  out := second_newS w _ _
  low := ((Below.refl _ _).alloc (Nat.le_refl _) _).alloc (by simp) _
theorem CB0.later (h : CB0 w W opc) (hb : Below W.heap.size W W') : CB0 w W' opc :=
  ⟨(hb.block _ (lt_of_heap h.op)).trans h.op, (hb.block _ (lt_of_heap h.out)).trans h.out, h.low.trans (hb.mono h.low.size)⟩
theorem CB0.drew (h : CB0 w W opc) : CB0 w W.drew opc := ⟨h.op, h.out, h.low.drew⟩
theorem CB0.next (h : CB0 w W opc) : CB w (W.alloc (.cells #[.int .i64 0, .int .i64 0, .int .i64 0, .bool false, .int .i64 0] 49)) W.heap.size opc #[.int .i64 0, .int .i64 0, .int .i64 0, .bool false, .int .i64 0] :=
  ⟨(Below.heap_alloc _ _ _ (lt_of_heap h.op)).trans h.op, (Below.heap_alloc _ _ _ (lt_of_heap h.out)).trans h.out, World.alloc_heap_new W _, lt_of_heap h.out, h.low.alloc h.low.size _⟩
theorem CB0.two {kd wh to : Nat} {sg nn : Int} {iss : Bool} (h : CB0 w W #[.int .u8 kd, .int .u8 wh, .int .u8 to, .int .i64 sg, .int .i64 nn, .bool iss]) : W.cell? ⟨w.heap.size, 1, none⟩ = some (.int .u8 wh) ∧ W.cell? ⟨w.heap.size, 2, none⟩ = some (.int .u8 to) := ⟨cell_of_heap h.op 1, cell_of_heap h.op 2⟩
theorem grown_set5 (w : World) (Y : Nat) (v0 v1 v2 v3 v4 : Value) : w.grownBy (((((w.setCell ⟨Y, 0, none⟩ v0).setCell ⟨Y, 1, none⟩ v1).setCell ⟨Y, 2, none⟩ v2).setCell ⟨Y, 3, none⟩ v3).setCell ⟨Y, 4, none⟩ v4) (some Y) :=
  grown_trans (grown_trans (grown_trans (grown_trans (grown_setCell _ _ _ _) (grown_setCell _ _ _ _)) (grown_setCell _ _ _ _)) (grown_setCell _ _ _ _)) (grown_setCell _ _ _ _)
end
/-- What an operation without a view returns. -/
def nilE (k : Nat) : Int := if k = 9 then 0 else 1
def NilPost (w : World) (k : Nat) (r : Ending) (w' : World) : Prop := r = .returned (.agg #[.int .i64 0, .int .i64 0, .int .i64 0, .bool false, .int .i64 (nilE k)]) ∧ Below w.heap.size w w'

set_option maxRecDepth 100000 in
set_option maxHeartbeats 6400000 in
theorem snil_any (kd wh to : Nat) (sg nn : Int) (iss : Bool) (w : World) (hwh : wh ≤ 255) (hto : to ≤ 255) (hkd : kd ≤ 255) :
    Calls Tryz.prog 21 #[.agg #[.int .u8 kd, .int .u8 wh, .int .u8 to, .int .i64 sg, .int .i64 nn, .bool iss], .pointer none] w (NilPost w (kd % 10)) := by
  have D0 := Lib.hid (CB0.start w #[.int .u8 kd, .int .u8 wh, .int .u8 to, .int .i64 sg, .int .i64 nn, .bool iss])
  have h10 : Hid (kd % 10 = 0 ∨ kd % 10 = 1 ∨ kd % 10 = 2 ∨ kd % 10 = 3 ∨ kd % 10 = 4 ∨ kd % 10 = 5 ∨ kd % 10 = 6 ∨ kd % 10 = 7 ∨ kd % 10 = 8 ∨ kd % 10 = 9) := by show _ ∨ _; omega
  have tok : True := trivial
  go_enter Tryz.func21, Tryz.ntmps21
  go_wp2_with fail
  generalize (w.alloc (.cells #[.int .u8 kd, .int .u8 wh, .int .u8 to, .int .i64 sg, .int .i64 nn, .bool iss] 40)).alloc (.cells #[.int .i64 0, .int .i64 0, .int .i64 0, .bool false, .int .i64 0] 49) = W at *
  obtain ⟨c1, c2⟩ := D0.out.two
  have Dd := Lib.hid D0.out.drew
  clear D0
  go_region_held3 (fun w' => w'.cell? ⟨w.heap.size, 1, none⟩ = some (.int .u8 wh) ∧ w'.cell? ⟨w.heap.size, 2, none⟩ = some (.int .u8 to)) (first | with_reducible exact ⟨c1, c2⟩ | with_reducible exact D1.out.two | with_reducible exact D2.out.two | go_keep)
    (first
      | (go_at_call 24; have _g := tok; clear _g; refine (whoS_any wh _ hwh).mono ?_; rintro r w1 ⟨rfl, hb1⟩; have D1 := Lib.hid (Dd.out.later hb1); clear hb1 tok)
      | (go_at_call 24; refine (whoS_any to _ hto).mono ?_; rintro r w2 ⟨rfl, hb2⟩; have D2 := Lib.hid (D1.out.later hb2); clear hb2)
      | fail)
  clear c1 c2
  go_upto_region 3 with fail
  have D3 := Lib.hid D2.out.next
  clear Dd D1 D2
  generalize w2.alloc (.cells #[.int .i64 0, .int .i64 0, .int .i64 0, .bool false, .int .i64 0] 49) = Wa at *
  generalize w2.heap.size = ZZ at *
  have c0 : Wa.cell? ⟨w.heap.size, 0, none⟩ = some (.int .u8 kd) := cell_of_heap D3.out.op 0
  have c3 : Wa.cell? ⟨w.heap.size, 3, none⟩ = some (.int .i64 sg) := cell_of_heap D3.out.op 3
  have c4 : Wa.cell? ⟨w.heap.size, 4, none⟩ = some (.int .i64 nn) := cell_of_heap D3.out.op 4
  have c5 : Wa.cell? ⟨w.heap.size, 5, none⟩ = some (.bool iss) := cell_of_heap D3.out.op 5
  rcases h10.out with h | h | h | h | h | h | h | h | h | h
  · have hk : (kd : Int) % 10 = 0 := by omega
    have hE : Hid (nilE (kd % 10) = 1) := by show _ = _; rw [h]; rfl
    clear h h10
    go_wp2_with fail
    refine (makeNil_any _ _).mono ?_
    rintro r w3 ⟨rfl, hb3⟩
    have D4 := Lib.hid (D3.out.later hb3)
    clear hb3 D3 c0 c3 c4 c5
    have q4 : w3.cell? ⟨ZZ, 4, none⟩ = some (.int .i64 0) := cell_of_heap D4.out.res 4
    have f4 : w3.frozen? ⟨ZZ, 4, none⟩ = false := frozen_of_heap D4.out.res 4
    go_upto_region 23 with fail
    have D5 := Lib.hid (D4.out.set 4 (.int .i64 1) #[.int .i64 0, .int .i64 0, .int .i64 0, .bool false, .int .i64 1] rfl)
    generalize (w3.setCell ⟨ZZ, 4, none⟩ (.int .i64 1)) = W3 at *
    clear D4 q4 f4
    have s0 : W3.cell? ⟨ZZ, 0, none⟩ = some (.int .i64 0) := cell_of_heap D5.out.res 0
    have s1 : W3.cell? ⟨ZZ, 1, none⟩ = some (.int .i64 0) := cell_of_heap D5.out.res 1
    have s2 : W3.cell? ⟨ZZ, 2, none⟩ = some (.int .i64 0) := cell_of_heap D5.out.res 2
    have s3 : W3.cell? ⟨ZZ, 3, none⟩ = some (.bool false) := cell_of_heap D5.out.res 3
    have s4 : W3.cell? ⟨ZZ, 4, none⟩ = some (.int .i64 1) := cell_of_heap D5.out.res 4
    have t0 : W3.cell? ⟨w.heap.size + 1, 0, none⟩ = some (.int .i64 0) := cell_of_heap D5.out.out 0
    have g0 : W3.frozen? ⟨w.heap.size + 1, 0, none⟩ = false := frozen_of_heap D5.out.out 0
    have t1 : W3.cell? ⟨w.heap.size + 1, 1, none⟩ = some (.int .i64 0) := cell_of_heap D5.out.out 1
    have g1 : W3.frozen? ⟨w.heap.size + 1, 1, none⟩ = false := frozen_of_heap D5.out.out 1
    have t2 : W3.cell? ⟨w.heap.size + 1, 2, none⟩ = some (.int .i64 0) := cell_of_heap D5.out.out 2
    have g2 : W3.frozen? ⟨w.heap.size + 1, 2, none⟩ = false := frozen_of_heap D5.out.out 2
    have t3 : W3.cell? ⟨w.heap.size + 1, 3, none⟩ = some (.bool false) := cell_of_heap D5.out.out 3
    have g3 : W3.frozen? ⟨w.heap.size + 1, 3, none⟩ = false := frozen_of_heap D5.out.out 3
    have t4 : W3.cell? ⟨w.heap.size + 1, 4, none⟩ = some (.int .i64 0) := cell_of_heap D5.out.out 4
    have g4 : W3.frozen? ⟨w.heap.size + 1, 4, none⟩ = false := frozen_of_heap D5.out.out 4
    go_wp2
    refine bodyPost_ret (v := .agg #[.int .i64 0, .int .i64 0, .int .i64 0, .bool false, .int .i64 1]) (by simp [results, Tryz.results21, go_sem, t0, t1, t2, t3, t4]) rfl ?_
    exact ⟨by rw [hE.out], Below.grownRow D5.out.low (grown_set5 _ _ _ _ _ _ _) (Nat.le_refl _) (fun k hk => by cases hk; omega)⟩
  · have hk : (kd : Int) % 10 = 1 := by omega
    have hE : Hid (nilE (kd % 10) = 1) := by show _ = _; rw [h]; rfl
    clear h h10
    go_wp2_with fail
    refine (forkNil_any _ _ _).mono ?_
    rintro r w3 ⟨rfl, hb3⟩
    have D4 := Lib.hid (D3.out.later hb3)
    clear hb3 D3 c0 c3 c4 c5
    have q4 : w3.cell? ⟨ZZ, 4, none⟩ = some (.int .i64 0) := cell_of_heap D4.out.res 4
    have f4 : w3.frozen? ⟨ZZ, 4, none⟩ = false := frozen_of_heap D4.out.res 4
    go_upto_region 23 with fail
    have D5 := Lib.hid (D4.out.set 4 (.int .i64 1) #[.int .i64 0, .int .i64 0, .int .i64 0, .bool false, .int .i64 1] rfl)
    generalize (w3.setCell ⟨ZZ, 4, none⟩ (.int .i64 1)) = W3 at *
    clear D4 q4 f4
    have s0 : W3.cell? ⟨ZZ, 0, none⟩ = some (.int .i64 0) := cell_of_heap D5.out.res 0
    have s1 : W3.cell? ⟨ZZ, 1, none⟩ = some (.int .i64 0) := cell_of_heap D5.out.res 1
    have s2 : W3.cell? ⟨ZZ, 2, none⟩ = some (.int .i64 0) := cell_of_heap D5.out.res 2
    have s3 : W3.cell? ⟨ZZ, 3, none⟩ = some (.bool false) := cell_of_heap D5.out.res 3
    have s4 : W3.cell? ⟨ZZ, 4, none⟩ = some (.int .i64 1) := cell_of_heap D5.out.res 4
    have t0 : W3.cell? ⟨w.heap.size + 1, 0, none⟩ = some (.int .i64 0) := cell_of_heap D5.out.out 0
    have g0 : W3.frozen? ⟨w.heap.size + 1, 0, none⟩ = false := frozen_of_heap D5.out.out 0
    have t1 : W3.cell? ⟨w.heap.size + 1, 1, none⟩ = some (.int .i64 0) := cell_of_heap D5.out.out 1
    have g1 : W3.frozen? ⟨w.heap.size + 1, 1, none⟩ = false := frozen_of_heap D5.out.out 1
    have t2 : W3.cell? ⟨w.heap.size + 1, 2, none⟩ = some (.int .i64 0) := cell_of_heap D5.out.out 2
    have g2 : W3.frozen? ⟨w.heap.size + 1, 2, none⟩ = false := frozen_of_heap D5.out.out 2
    have t3 : W3.cell? ⟨w.heap.size + 1, 3, none⟩ = some (.bool false) := cell_of_heap D5.out.out 3
    have g3 : W3.frozen? ⟨w.heap.size + 1, 3, none⟩ = false := frozen_of_heap D5.out.out 3
    have t4 : W3.cell? ⟨w.heap.size + 1, 4, none⟩ = some (.int .i64 0) := cell_of_heap D5.out.out 4
    have g4 : W3.frozen? ⟨w.heap.size + 1, 4, none⟩ = false := frozen_of_heap D5.out.out 4
    go_wp2
    refine bodyPost_ret (v := .agg #[.int .i64 0, .int .i64 0, .int .i64 0, .bool false, .int .i64 1]) (by simp [results, Tryz.results21, go_sem, t0, t1, t2, t3, t4]) rfl ?_
    exact ⟨by rw [hE.out], Below.grownRow D5.out.low (grown_set5 _ _ _ _ _ _ _) (Nat.le_refl _) (fun k hk => by cases hk; omega)⟩
  · have hk : (kd : Int) % 10 = 2 := by omega
    have hE : Hid (nilE (kd % 10) = 1) := by show _ = _; rw [h]; rfl
    clear h h10
    go_wp2_with fail
    refine (dropNil_any _ _).mono ?_
    rintro r w3 ⟨rfl, hb3⟩
    have D4 := Lib.hid (D3.out.later hb3)
    clear hb3 D3 c0 c3 c4 c5
    have q4 : w3.cell? ⟨ZZ, 4, none⟩ = some (.int .i64 0) := cell_of_heap D4.out.res 4
    have f4 : w3.frozen? ⟨ZZ, 4, none⟩ = false := frozen_of_heap D4.out.res 4
    go_upto_region 23 with fail
    have D5 := Lib.hid (D4.out.set 4 (.int .i64 1) #[.int .i64 0, .int .i64 0, .int .i64 0, .bool false, .int .i64 1] rfl)
    generalize (w3.setCell ⟨ZZ, 4, none⟩ (.int .i64 1)) = W3 at *
    clear D4 q4 f4
    have s0 : W3.cell? ⟨ZZ, 0, none⟩ = some (.int .i64 0) := cell_of_heap D5.out.res 0
    have s1 : W3.cell? ⟨ZZ, 1, none⟩ = some (.int .i64 0) := cell_of_heap D5.out.res 1
    have s2 : W3.cell? ⟨ZZ, 2, none⟩ = some (.int .i64 0) := cell_of_heap D5.out.res 2
    have s3 : W3.cell? ⟨ZZ, 3, none⟩ = some (.bool false) := cell_of_heap D5.out.res 3
    have s4 : W3.cell? ⟨ZZ, 4, none⟩ = some (.int .i64 1) := cell_of_heap D5.out.res 4
    have t0 : W3.cell? ⟨w.heap.size + 1, 0, none⟩ = some (.int .i64 0) := cell_of_heap D5.out.out 0
    have g0 : W3.frozen? ⟨w.heap.size + 1, 0, none⟩ = false := frozen_of_heap D5.out.out 0
    have t1 : W3.cell? ⟨w.heap.size + 1, 1, none⟩ = some (.int .i64 0) := cell_of_heap D5.out.out 1
    have g1 : W3.frozen? ⟨w.heap.size + 1, 1, none⟩ = false := frozen_of_heap D5.out.out 1
    have t2 : W3.cell? ⟨w.heap.size + 1, 2, none⟩ = some (.int .i64 0) := cell_of_heap D5.out.out 2
    have g2 : W3.frozen? ⟨w.heap.size + 1, 2, none⟩ = false := frozen_of_heap D5.out.out 2
    have t3 : W3.cell? ⟨w.heap.size + 1, 3, none⟩ = some (.bool false) := cell_of_heap D5.out.out 3
    have g3 : W3.frozen? ⟨w.heap.size + 1, 3, none⟩ = false := frozen_of_heap D5.out.out 3
    have t4 : W3.cell? ⟨w.heap.size + 1, 4, none⟩ = some (.int .i64 0) := cell_of_heap D5.out.out 4
    have g4 : W3.frozen? ⟨w.heap.size + 1, 4, none⟩ = false := frozen_of_heap D5.out.out 4
    go_wp2
    refine bodyPost_ret (v := .agg #[.int .i64 0, .int .i64 0, .int .i64 0, .bool false, .int .i64 1]) (by simp [results, Tryz.results21, go_sem, t0, t1, t2, t3, t4]) rfl ?_
    exact ⟨by rw [hE.out], Below.grownRow D5.out.low (grown_set5 _ _ _ _ _ _ _) (Nat.le_refl _) (fun k hk => by cases hk; omega)⟩
  · have hk : (kd : Int) % 10 = 3 := by omega
    have hE : Hid (nilE (kd % 10) = 1) := by show _ = _; rw [h]; rfl
    clear h h10
    go_wp2_with fail
    refine (execNil_any _ _).mono ?_
    rintro r w3 ⟨rfl, hb3⟩
    have D4 := Lib.hid (D3.out.later hb3)
    clear hb3 D3 c0 c3 c4 c5
    have q4 : w3.cell? ⟨ZZ, 4, none⟩ = some (.int .i64 0) := cell_of_heap D4.out.res 4
    have f4 : w3.frozen? ⟨ZZ, 4, none⟩ = false := frozen_of_heap D4.out.res 4
    go_upto_region 23 with fail
    have D5 := Lib.hid (D4.out.set 4 (.int .i64 1) #[.int .i64 0, .int .i64 0, .int .i64 0, .bool false, .int .i64 1] rfl)
    generalize (w3.setCell ⟨ZZ, 4, none⟩ (.int .i64 1)) = W3 at *
    clear D4 q4 f4
    have s0 : W3.cell? ⟨ZZ, 0, none⟩ = some (.int .i64 0) := cell_of_heap D5.out.res 0
    have s1 : W3.cell? ⟨ZZ, 1, none⟩ = some (.int .i64 0) := cell_of_heap D5.out.res 1
    have s2 : W3.cell? ⟨ZZ, 2, none⟩ = some (.int .i64 0) := cell_of_heap D5.out.res 2
    have s3 : W3.cell? ⟨ZZ, 3, none⟩ = some (.bool false) := cell_of_heap D5.out.res 3
    have s4 : W3.cell? ⟨ZZ, 4, none⟩ = some (.int .i64 1) := cell_of_heap D5.out.res 4
    have t0 : W3.cell? ⟨w.heap.size + 1, 0, none⟩ = some (.int .i64 0) := cell_of_heap D5.out.out 0
    have g0 : W3.frozen? ⟨w.heap.size + 1, 0, none⟩ = false := frozen_of_heap D5.out.out 0
    have t1 : W3.cell? ⟨w.heap.size + 1, 1, none⟩ = some (.int .i64 0) := cell_of_heap D5.out.out 1
    have g1 : W3.frozen? ⟨w.heap.size + 1, 1, none⟩ = false := frozen_of_heap D5.out.out 1
    have t2 : W3.cell? ⟨w.heap.size + 1, 2, none⟩ = some (.int .i64 0) := cell_of_heap D5.out.out 2
    have g2 : W3.frozen? ⟨w.heap.size + 1, 2, none⟩ = false := frozen_of_heap D5.out.out 2
    have t3 : W3.cell? ⟨w.heap.size + 1, 3, none⟩ = some (.bool false) := cell_of_heap D5.out.out 3
    have g3 : W3.frozen? ⟨w.heap.size + 1, 3, none⟩ = false := frozen_of_heap D5.out.out 3
    have t4 : W3.cell? ⟨w.heap.size + 1, 4, none⟩ = some (.int .i64 0) := cell_of_heap D5.out.out 4
    have g4 : W3.frozen? ⟨w.heap.size + 1, 4, none⟩ = false := frozen_of_heap D5.out.out 4
    go_wp2
    refine bodyPost_ret (v := .agg #[.int .i64 0, .int .i64 0, .int .i64 0, .bool false, .int .i64 1]) (by simp [results, Tryz.results21, go_sem, t0, t1, t2, t3, t4]) rfl ?_
    exact ⟨by rw [hE.out], Below.grownRow D5.out.low (grown_set5 _ _ _ _ _ _ _) (Nat.le_refl _) (fun k hk => by cases hk; omega)⟩
  · have hk : (kd : Int) % 10 = 4 := by omega
    have hE : Hid (nilE (kd % 10) = 1) := by show _ = _; rw [h]; rfl
    clear h h10
    go_wp2_with fail
    refine (sendNil_any _ _ _ _).mono ?_
    rintro r w3 ⟨rfl, hb3⟩
    have D4 := Lib.hid (D3.out.later hb3)
    clear hb3 D3 c0 c3 c4 c5
    have q4 : w3.cell? ⟨ZZ, 4, none⟩ = some (.int .i64 0) := cell_of_heap D4.out.res 4
    have f4 : w3.frozen? ⟨ZZ, 4, none⟩ = false := frozen_of_heap D4.out.res 4
    go_upto_region 23 with fail
    have D5 := Lib.hid (D4.out.set 4 (.int .i64 1) #[.int .i64 0, .int .i64 0, .int .i64 0, .bool false, .int .i64 1] rfl)
    generalize (w3.setCell ⟨ZZ, 4, none⟩ (.int .i64 1)) = W3 at *
    clear D4 q4 f4
    have s0 : W3.cell? ⟨ZZ, 0, none⟩ = some (.int .i64 0) := cell_of_heap D5.out.res 0
    have s1 : W3.cell? ⟨ZZ, 1, none⟩ = some (.int .i64 0) := cell_of_heap D5.out.res 1
    have s2 : W3.cell? ⟨ZZ, 2, none⟩ = some (.int .i64 0) := cell_of_heap D5.out.res 2
    have s3 : W3.cell? ⟨ZZ, 3, none⟩ = some (.bool false) := cell_of_heap D5.out.res 3
    have s4 : W3.cell? ⟨ZZ, 4, none⟩ = some (.int .i64 1) := cell_of_heap D5.out.res 4
    have t0 : W3.cell? ⟨w.heap.size + 1, 0, none⟩ = some (.int .i64 0) := cell_of_heap D5.out.out 0
    have g0 : W3.frozen? ⟨w.heap.size + 1, 0, none⟩ = false := frozen_of_heap D5.out.out 0
    have t1 : W3.cell? ⟨w.heap.size + 1, 1, none⟩ = some (.int .i64 0) := cell_of_heap D5.out.out 1
    have g1 : W3.frozen? ⟨w.heap.size + 1, 1, none⟩ = false := frozen_of_heap D5.out.out 1
    have t2 : W3.cell? ⟨w.heap.size + 1, 2, none⟩ = some (.int .i64 0) := cell_of_heap D5.out.out 2
    have g2 : W3.frozen? ⟨w.heap.size + 1, 2, none⟩ = false := frozen_of_heap D5.out.out 2
    have t3 : W3.cell? ⟨w.heap.size + 1, 3, none⟩ = some (.bool false) := cell_of_heap D5.out.out 3
    have g3 : W3.frozen? ⟨w.heap.size + 1, 3, none⟩ = false := frozen_of_heap D5.out.out 3
    have t4 : W3.cell? ⟨w.heap.size + 1, 4, none⟩ = some (.int .i64 0) := cell_of_heap D5.out.out 4
    have g4 : W3.frozen? ⟨w.heap.size + 1, 4, none⟩ = false := frozen_of_heap D5.out.out 4
    go_wp2
    refine bodyPost_ret (v := .agg #[.int .i64 0, .int .i64 0, .int .i64 0, .bool false, .int .i64 1]) (by simp [results, Tryz.results21, go_sem, t0, t1, t2, t3, t4]) rfl ?_
    exact ⟨by rw [hE.out], Below.grownRow D5.out.low (grown_set5 _ _ _ _ _ _ _) (Nat.le_refl _) (fun k hk => by cases hk; omega)⟩
  · have hk : (kd : Int) % 10 = 5 := by omega
    have hE : Hid (nilE (kd % 10) = 1) := by show _ = _; rw [h]; rfl
    clear h h10
    go_wp2_with fail
    refine (handlerNil_any _ _ _ _).mono ?_
    rintro r w3 ⟨rfl, hb3⟩
    have D4 := Lib.hid (D3.out.later hb3)
    clear hb3 D3 c0 c3 c4 c5
    have q4 : w3.cell? ⟨ZZ, 4, none⟩ = some (.int .i64 0) := cell_of_heap D4.out.res 4
    have f4 : w3.frozen? ⟨ZZ, 4, none⟩ = false := frozen_of_heap D4.out.res 4
    go_upto_region 23 with fail
    have D5 := Lib.hid (D4.out.set 4 (.int .i64 1) #[.int .i64 0, .int .i64 0, .int .i64 0, .bool false, .int .i64 1] rfl)
    generalize (w3.setCell ⟨ZZ, 4, none⟩ (.int .i64 1)) = W3 at *
    clear D4 q4 f4
    have s0 : W3.cell? ⟨ZZ, 0, none⟩ = some (.int .i64 0) := cell_of_heap D5.out.res 0
    have s1 : W3.cell? ⟨ZZ, 1, none⟩ = some (.int .i64 0) := cell_of_heap D5.out.res 1
    have s2 : W3.cell? ⟨ZZ, 2, none⟩ = some (.int .i64 0) := cell_of_heap D5.out.res 2
    have s3 : W3.cell? ⟨ZZ, 3, none⟩ = some (.bool false) := cell_of_heap D5.out.res 3
    have s4 : W3.cell? ⟨ZZ, 4, none⟩ = some (.int .i64 1) := cell_of_heap D5.out.res 4
    have t0 : W3.cell? ⟨w.heap.size + 1, 0, none⟩ = some (.int .i64 0) := cell_of_heap D5.out.out 0
    have g0 : W3.frozen? ⟨w.heap.size + 1, 0, none⟩ = false := frozen_of_heap D5.out.out 0
    have t1 : W3.cell? ⟨w.heap.size + 1, 1, none⟩ = some (.int .i64 0) := cell_of_heap D5.out.out 1
    have g1 : W3.frozen? ⟨w.heap.size + 1, 1, none⟩ = false := frozen_of_heap D5.out.out 1
    have t2 : W3.cell? ⟨w.heap.size + 1, 2, none⟩ = some (.int .i64 0) := cell_of_heap D5.out.out 2
    have g2 : W3.frozen? ⟨w.heap.size + 1, 2, none⟩ = false := frozen_of_heap D5.out.out 2
    have t3 : W3.cell? ⟨w.heap.size + 1, 3, none⟩ = some (.bool false) := cell_of_heap D5.out.out 3
    have g3 : W3.frozen? ⟨w.heap.size + 1, 3, none⟩ = false := frozen_of_heap D5.out.out 3
    have t4 : W3.cell? ⟨w.heap.size + 1, 4, none⟩ = some (.int .i64 0) := cell_of_heap D5.out.out 4
    have g4 : W3.frozen? ⟨w.heap.size + 1, 4, none⟩ = false := frozen_of_heap D5.out.out 4
    go_wp2
    refine bodyPost_ret (v := .agg #[.int .i64 0, .int .i64 0, .int .i64 0, .bool false, .int .i64 1]) (by simp [results, Tryz.results21, go_sem, t0, t1, t2, t3, t4]) rfl ?_
    exact ⟨by rw [hE.out], Below.grownRow D5.out.low (grown_set5 _ _ _ _ _ _ _) (Nat.le_refl _) (fun k hk => by cases hk; omega)⟩
  · have hk : (kd : Int) % 10 = 6 := by omega
    have hE : Hid (nilE (kd % 10) = 1) := by show _ = _; rw [h]; rfl
    clear h h10
    go_wp2_with fail
    refine (ignoredNil_any _ _ _ _).mono ?_
    rintro r w3 ⟨rfl, hb3⟩
    have D4 := Lib.hid (D3.out.later hb3)
    clear hb3 D3 c0 c3 c4 c5
    have q4 : w3.cell? ⟨ZZ, 4, none⟩ = some (.int .i64 0) := cell_of_heap D4.out.res 4
    have f4 : w3.frozen? ⟨ZZ, 4, none⟩ = false := frozen_of_heap D4.out.res 4
    go_upto_region 23 with fail
    have D5 := Lib.hid (D4.out.set 4 (.int .i64 1) #[.int .i64 0, .int .i64 0, .int .i64 0, .bool false, .int .i64 1] rfl)
    generalize (w3.setCell ⟨ZZ, 4, none⟩ (.int .i64 1)) = W3 at *
    clear D4 q4 f4
    have s0 : W3.cell? ⟨ZZ, 0, none⟩ = some (.int .i64 0) := cell_of_heap D5.out.res 0
    have s1 : W3.cell? ⟨ZZ, 1, none⟩ = some (.int .i64 0) := cell_of_heap D5.out.res 1
    have s2 : W3.cell? ⟨ZZ, 2, none⟩ = some (.int .i64 0) := cell_of_heap D5.out.res 2
    have s3 : W3.cell? ⟨ZZ, 3, none⟩ = some (.bool false) := cell_of_heap D5.out.res 3
    have s4 : W3.cell? ⟨ZZ, 4, none⟩ = some (.int .i64 1) := cell_of_heap D5.out.res 4
    have t0 : W3.cell? ⟨w.heap.size + 1, 0, none⟩ = some (.int .i64 0) := cell_of_heap D5.out.out 0
    have g0 : W3.frozen? ⟨w.heap.size + 1, 0, none⟩ = false := frozen_of_heap D5.out.out 0
    have t1 : W3.cell? ⟨w.heap.size + 1, 1, none⟩ = some (.int .i64 0) := cell_of_heap D5.out.out 1
    have g1 : W3.frozen? ⟨w.heap.size + 1, 1, none⟩ = false := frozen_of_heap D5.out.out 1
    have t2 : W3.cell? ⟨w.heap.size + 1, 2, none⟩ = some (.int .i64 0) := cell_of_heap D5.out.out 2
    have g2 : W3.frozen? ⟨w.heap.size + 1, 2, none⟩ = false := frozen_of_heap D5.out.out 2
    have t3 : W3.cell? ⟨w.heap.size + 1, 3, none⟩ = some (.bool false) := cell_of_heap D5.out.out 3
    have g3 : W3.frozen? ⟨w.heap.size + 1, 3, none⟩ = false := frozen_of_heap D5.out.out 3
    have t4 : W3.cell? ⟨w.heap.size + 1, 4, none⟩ = some (.int .i64 0) := cell_of_heap D5.out.out 4
    have g4 : W3.frozen? ⟨w.heap.size + 1, 4, none⟩ = false := frozen_of_heap D5.out.out 4
    go_wp2
    refine bodyPost_ret (v := .agg #[.int .i64 0, .int .i64 0, .int .i64 0, .bool false, .int .i64 1]) (by simp [results, Tryz.results21, go_sem, t0, t1, t2, t3, t4]) rfl ?_
    exact ⟨by rw [hE.out], Below.grownRow D5.out.low (grown_set5 _ _ _ _ _ _ _) (Nat.le_refl _) (fun k hk => by cases hk; omega)⟩
  · have hk : (kd : Int) % 10 = 7 := by omega
    have hE : Hid (nilE (kd % 10) = 1) := by show _ = _; rw [h]; rfl
    clear h h10
    go_wp2_with fail
    refine (blockedNil_any _ _ _).mono ?_
    rintro r w3 ⟨rfl, hb3⟩
    have D4 := Lib.hid (D3.out.later hb3)
    clear hb3 D3 c0 c3 c4 c5
    have q4 : w3.cell? ⟨ZZ, 4, none⟩ = some (.int .i64 0) := cell_of_heap D4.out.res 4
    have f4 : w3.frozen? ⟨ZZ, 4, none⟩ = false := frozen_of_heap D4.out.res 4
    go_upto_region 23 with fail
    have D5 := Lib.hid (D4.out.set 4 (.int .i64 1) #[.int .i64 0, .int .i64 0, .int .i64 0, .bool false, .int .i64 1] rfl)
    generalize (w3.setCell ⟨ZZ, 4, none⟩ (.int .i64 1)) = W3 at *
    clear D4 q4 f4
    have s0 : W3.cell? ⟨ZZ, 0, none⟩ = some (.int .i64 0) := cell_of_heap D5.out.res 0
    have s1 : W3.cell? ⟨ZZ, 1, none⟩ = some (.int .i64 0) := cell_of_heap D5.out.res 1
    have s2 : W3.cell? ⟨ZZ, 2, none⟩ = some (.int .i64 0) := cell_of_heap D5.out.res 2
    have s3 : W3.cell? ⟨ZZ, 3, none⟩ = some (.bool false) := cell_of_heap D5.out.res 3
    have s4 : W3.cell? ⟨ZZ, 4, none⟩ = some (.int .i64 1) := cell_of_heap D5.out.res 4
    have t0 : W3.cell? ⟨w.heap.size + 1, 0, none⟩ = some (.int .i64 0) := cell_of_heap D5.out.out 0
    have g0 : W3.frozen? ⟨w.heap.size + 1, 0, none⟩ = false := frozen_of_heap D5.out.out 0
    have t1 : W3.cell? ⟨w.heap.size + 1, 1, none⟩ = some (.int .i64 0) := cell_of_heap D5.out.out 1
    have g1 : W3.frozen? ⟨w.heap.size + 1, 1, none⟩ = false := frozen_of_heap D5.out.out 1
    have t2 : W3.cell? ⟨w.heap.size + 1, 2, none⟩ = some (.int .i64 0) := cell_of_heap D5.out.out 2
    have g2 : W3.frozen? ⟨w.heap.size + 1, 2, none⟩ = false := frozen_of_heap D5.out.out 2
    have t3 : W3.cell? ⟨w.heap.size + 1, 3, none⟩ = some (.bool false) := cell_of_heap D5.out.out 3
    have g3 : W3.frozen? ⟨w.heap.size + 1, 3, none⟩ = false := frozen_of_heap D5.out.out 3
    have t4 : W3.cell? ⟨w.heap.size + 1, 4, none⟩ = some (.int .i64 0) := cell_of_heap D5.out.out 4
    have g4 : W3.frozen? ⟨w.heap.size + 1, 4, none⟩ = false := frozen_of_heap D5.out.out 4
    go_wp2
    refine bodyPost_ret (v := .agg #[.int .i64 0, .int .i64 0, .int .i64 0, .bool false, .int .i64 1]) (by simp [results, Tryz.results21, go_sem, t0, t1, t2, t3, t4]) rfl ?_
    exact ⟨by rw [hE.out], Below.grownRow D5.out.low (grown_set5 _ _ _ _ _ _ _) (Nat.le_refl _) (fun k hk => by cases hk; omega)⟩
  · have hk : (kd : Int) % 10 = 8 := by omega
    have hE : Hid (nilE (kd % 10) = 1) := by show _ = _; rw [h]; rfl
    clear h h10
    go_wp2_with fail
    refine (takeNil_any _ _).mono ?_
    rintro r w3 ⟨rfl, hb3⟩
    have D4 := Lib.hid (D3.out.later hb3)
    clear hb3 D3 c0 c3 c4 c5
    have q0 : w3.cell? ⟨ZZ, 0, none⟩ = some (.int .i64 0) := cell_of_heap D4.out.res 0
    have f0 : w3.frozen? ⟨ZZ, 0, none⟩ = false := frozen_of_heap D4.out.res 0
    have q1 : w3.cell? ⟨ZZ, 1, none⟩ = some (.int .i64 0) := cell_of_heap D4.out.res 1
    have f1 : w3.frozen? ⟨ZZ, 1, none⟩ = false := frozen_of_heap D4.out.res 1
    have q2 : w3.cell? ⟨ZZ, 2, none⟩ = some (.int .i64 0) := cell_of_heap D4.out.res 2
    have f2 : w3.frozen? ⟨ZZ, 2, none⟩ = false := frozen_of_heap D4.out.res 2
    have q4 : w3.cell? ⟨ZZ, 4, none⟩ = some (.int .i64 0) := cell_of_heap D4.out.res 4
    have f4 : w3.frozen? ⟨ZZ, 4, none⟩ = false := frozen_of_heap D4.out.res 4
    go_upto_region 23 with fail
    have D5 := Lib.hid ((((D4.out.set 0 (.int .i64 0) #[.int .i64 0, .int .i64 0, .int .i64 0, .bool false, .int .i64 0] rfl).set 1 (.int .i64 0) #[.int .i64 0, .int .i64 0, .int .i64 0, .bool false, .int .i64 0] rfl).set 2 (.int .i64 0) #[.int .i64 0, .int .i64 0, .int .i64 0, .bool false, .int .i64 0] rfl).set 4 (.int .i64 1) #[.int .i64 0, .int .i64 0, .int .i64 0, .bool false, .int .i64 1] rfl)
    generalize ((((w3.setCell ⟨ZZ, 0, none⟩ (.int .i64 0)).setCell ⟨ZZ, 1, none⟩ (.int .i64 0)).setCell ⟨ZZ, 2, none⟩ (.int .i64 0)).setCell ⟨ZZ, 4, none⟩ (.int .i64 1)) = W3 at *
    clear D4 q0 f0 q1 f1 q2 f2 q4 f4
    have s0 : W3.cell? ⟨ZZ, 0, none⟩ = some (.int .i64 0) := cell_of_heap D5.out.res 0
    have s1 : W3.cell? ⟨ZZ, 1, none⟩ = some (.int .i64 0) := cell_of_heap D5.out.res 1
    have s2 : W3.cell? ⟨ZZ, 2, none⟩ = some (.int .i64 0) := cell_of_heap D5.out.res 2
    have s3 : W3.cell? ⟨ZZ, 3, none⟩ = some (.bool false) := cell_of_heap D5.out.res 3
    have s4 : W3.cell? ⟨ZZ, 4, none⟩ = some (.int .i64 1) := cell_of_heap D5.out.res 4
    have t0 : W3.cell? ⟨w.heap.size + 1, 0, none⟩ = some (.int .i64 0) := cell_of_heap D5.out.out 0
    have g0 : W3.frozen? ⟨w.heap.size + 1, 0, none⟩ = false := frozen_of_heap D5.out.out 0
    have t1 : W3.cell? ⟨w.heap.size + 1, 1, none⟩ = some (.int .i64 0) := cell_of_heap D5.out.out 1
    have g1 : W3.frozen? ⟨w.heap.size + 1, 1, none⟩ = false := frozen_of_heap D5.out.out 1
    have t2 : W3.cell? ⟨w.heap.size + 1, 2, none⟩ = some (.int .i64 0) := cell_of_heap D5.out.out 2
    have g2 : W3.frozen? ⟨w.heap.size + 1, 2, none⟩ = false := frozen_of_heap D5.out.out 2
    have t3 : W3.cell? ⟨w.heap.size + 1, 3, none⟩ = some (.bool false) := cell_of_heap D5.out.out 3
    have g3 : W3.frozen? ⟨w.heap.size + 1, 3, none⟩ = false := frozen_of_heap D5.out.out 3
    have t4 : W3.cell? ⟨w.heap.size + 1, 4, none⟩ = some (.int .i64 0) := cell_of_heap D5.out.out 4
    have g4 : W3.frozen? ⟨w.heap.size + 1, 4, none⟩ = false := frozen_of_heap D5.out.out 4
    go_wp2
    refine bodyPost_ret (v := .agg #[.int .i64 0, .int .i64 0, .int .i64 0, .bool false, .int .i64 1]) (by simp [results, Tryz.results21, go_sem, t0, t1, t2, t3, t4]) rfl ?_
    exact ⟨by rw [hE.out], Below.grownRow D5.out.low (grown_set5 _ _ _ _ _ _ _) (Nat.le_refl _) (fun k hk => by cases hk; omega)⟩
  · have hk : (kd : Int) % 10 = 9 := by omega
    have hE : Hid (nilE (kd % 10) = 0) := by show _ = _; rw [h]; rfl
    clear h h10
    go_wp2_with fail
    refine (waitingNil_any _ _).mono ?_
    rintro r w3 ⟨rfl, hb3⟩
    have D4 := Lib.hid (D3.out.later hb3)
    clear hb3 D3 c0 c3 c4 c5
    have q3 : w3.cell? ⟨ZZ, 3, none⟩ = some (.bool false) := cell_of_heap D4.out.res 3
    have f3 : w3.frozen? ⟨ZZ, 3, none⟩ = false := frozen_of_heap D4.out.res 3
    go_upto_region 23 with fail
    have D5 := Lib.hid (D4.out.set 3 (.bool false) #[.int .i64 0, .int .i64 0, .int .i64 0, .bool false, .int .i64 0] rfl)
    generalize (w3.setCell ⟨ZZ, 3, none⟩ (.bool false)) = W3 at *
    clear D4 q3 f3
    have s0 : W3.cell? ⟨ZZ, 0, none⟩ = some (.int .i64 0) := cell_of_heap D5.out.res 0
    have s1 : W3.cell? ⟨ZZ, 1, none⟩ = some (.int .i64 0) := cell_of_heap D5.out.res 1
    have s2 : W3.cell? ⟨ZZ, 2, none⟩ = some (.int .i64 0) := cell_of_heap D5.out.res 2
    have s3 : W3.cell? ⟨ZZ, 3, none⟩ = some (.bool false) := cell_of_heap D5.out.res 3
    have s4 : W3.cell? ⟨ZZ, 4, none⟩ = some (.int .i64 0) := cell_of_heap D5.out.res 4
    have t0 : W3.cell? ⟨w.heap.size + 1, 0, none⟩ = some (.int .i64 0) := cell_of_heap D5.out.out 0
    have g0 : W3.frozen? ⟨w.heap.size + 1, 0, none⟩ = false := frozen_of_heap D5.out.out 0
    have t1 : W3.cell? ⟨w.heap.size + 1, 1, none⟩ = some (.int .i64 0) := cell_of_heap D5.out.out 1
    have g1 : W3.frozen? ⟨w.heap.size + 1, 1, none⟩ = false := frozen_of_heap D5.out.out 1
    have t2 : W3.cell? ⟨w.heap.size + 1, 2, none⟩ = some (.int .i64 0) := cell_of_heap D5.out.out 2
    have g2 : W3.frozen? ⟨w.heap.size + 1, 2, none⟩ = false := frozen_of_heap D5.out.out 2
    have t3 : W3.cell? ⟨w.heap.size + 1, 3, none⟩ = some (.bool false) := cell_of_heap D5.out.out 3
    have g3 : W3.frozen? ⟨w.heap.size + 1, 3, none⟩ = false := frozen_of_heap D5.out.out 3
    have t4 : W3.cell? ⟨w.heap.size + 1, 4, none⟩ = some (.int .i64 0) := cell_of_heap D5.out.out 4
    have g4 : W3.frozen? ⟨w.heap.size + 1, 4, none⟩ = false := frozen_of_heap D5.out.out 4
    go_wp2
    refine bodyPost_ret (v := .agg #[.int .i64 0, .int .i64 0, .int .i64 0, .bool false, .int .i64 0]) (by simp [results, Tryz.results21, go_sem, t0, t1, t2, t3, t4]) rfl ?_
    exact ⟨by rw [hE.out], Below.grownRow D5.out.low (grown_set5 _ _ _ _ _ _ _) (Nat.le_refl _) (fun k hk => by cases hk; omega)⟩
end Go.Proofs.YtpieaakdddgdeaaGreatDoor
