/- Law 37: small, who; the calls without a view. -/
import Derived.Test.YtalpkndlnfgjfaaDoorPorN
import Derived.Deep.RegionHeld3
import Derived.BigQuiet
import Derived.BigRegion
import Derived.Deep.DeepCutAuto
namespace Go.Proofs.YtalpkndlnfgjfaaDoor
open Go.RowKit
attribute [local go_sem ↓] Go.wp_at_zero Go.wp_at_succ

def cut (s : ByteArray) (n : Nat) : ByteArray := s.extract 0 (min s.size n)
theorem cut_size (s : ByteArray) (n : Nat) : (cut s n).size ≤ n ∧ (cut s n).size ≤ s.size := by
  unfold cut
  rw [ByteArray.size_extract]
  omega

theorem cut60 (s : ByteArray) : cut s 60 = s.extract 0 (if (60 : Int) < (s.size : Int) then (60 : Int) else (s.size : Int)).toNat := by
  unfold cut
  congr 1
  split <;> omega
theorem cut600 (s : ByteArray) : cut s 600 = s.extract 0 (if (600 : Int) < (s.size : Int) then (600 : Int) else (s.size : Int)).toNat := by
  unfold cut
  congr 1
  split <;> omega

set_option maxRecDepth 100000 in
set_option maxHeartbeats 1600000 in
theorem small_any (a b : ByteArray) (w : World) (ha : a.size ≤ 9223372036854775807) (hb : b.size ≤ 9223372036854775807) : Calls Tryd.prog 21 #[.agg #[.string a, .string b]] w fun r w' => r = .returned (.agg #[.string (cut a 60), .string (cut b 600)]) ∧ Below w.heap.size w w' := by
  have HB : Hid (∀ o1 o2, Below w.heap.size w ((w.alloc o1).alloc o2)) := fun o1 o2 => ((Below.refl _ _).alloc (Nat.le_refl _) _).alloc (by simp) _
  have hca : ((60 : Int) < (a.size : Int) ∧ cut a 60 = a.extract 0 60) ∨ (¬ (60 : Int) < (a.size : Int) ∧ cut a 60 = a.extract 0 a.size) := by
    by_cases h : (60 : Int) < (a.size : Int)
    · exact .inl ⟨h, by unfold cut; rw [show min a.size 60 = 60 by omega]⟩
    · exact .inr ⟨h, by unfold cut; rw [show min a.size 60 = a.size by omega]⟩
  have hcb : ((600 : Int) < (b.size : Int) ∧ cut b 600 = b.extract 0 600) ∨ (¬ (600 : Int) < (b.size : Int) ∧ cut b 600 = b.extract 0 b.size) := by
    by_cases h : (600 : Int) < (b.size : Int)
    · exact .inl ⟨h, by unfold cut; rw [show min b.size 600 = 600 by omega]⟩
    · exact .inr ⟨h, by unfold cut; rw [show min b.size 600 = b.size by omega]⟩
  rcases hca with ⟨h1, e1⟩ | ⟨h1, e1⟩
  all_goals
    rw [e1]
    clear e1
    rcases hcb with ⟨h2, e2⟩ | ⟨h2, e2⟩
  all_goals
    rw [e2]
    clear e2
    go_enter Tryd.func21, Tryd.ntmps21
    go_wp2
    go_region
    go_wp2
    refine bodyPost_ret (v := _) (by simp [results, Tryd.results21, go_sem]; rfl) rfl ?_
    exact ⟨by simp, (HB.out _ _).drew⟩

def whoN (k : Nat) : ByteArray := if k % 3 = 0 then ⟨#[49]⟩ else if k % 3 = 1 then ⟨#[49, 46, 49]⟩ else ⟨#[50]⟩
theorem who_size (k : Nat) : (whoN k).size ≤ 64 := by
  unfold whoN
  split
  · decide
  · split <;> decide
set_option maxRecDepth 100000 in
set_option maxHeartbeats 1600000 in
theorem who_any (k : Nat) (w : World) (hk : k ≤ 255) : Calls Tryd.prog 50 #[.int .u8 k] w fun r w' => r = .returned (.string (whoN k)) ∧ Below w.heap.size w w' := by
  have HB : Hid (∀ o1, Below w.heap.size w (w.alloc o1)) := fun o1 => (Below.refl _ _).alloc (Nat.le_refl _) _
  have h3 : k % 3 = 0 ∨ k % 3 = 1 ∨ k % 3 = 2 := by omega
  rcases h3 with h | h | h
  · have he : Hid (whoN k = ⟨#[49]⟩) := by show _ = _; simp [whoN, h]
    have h' : (k : Int) % 3 = 0 := by omega
    clear h
    go_enter Tryd.func50, Tryd.ntmps50
    go_wp2
    go_ret
    rw [he.out]
    exact ⟨rfl, HB.out _⟩
  · have he : Hid (whoN k = ⟨#[49, 46, 49]⟩) := by show _ = _; simp [whoN, h]
    have h' : (k : Int) % 3 = 1 := by omega
    clear h
    go_enter Tryd.func50, Tryd.ntmps50
    go_wp2
    go_ret
    rw [he.out]
    exact ⟨rfl, HB.out _⟩
  · have he : Hid (whoN k = ⟨#[50]⟩) := by show _ = _; simp [whoN, h]
    have h' : (k : Int) % 3 = 2 := by omega
    clear h
    go_enter Tryd.func50, Tryd.ntmps50
    go_wp2
    go_ret
    rw [he.out]
    exact ⟨rfl, HB.out _⟩

/-! ### Without a view -/
set_option maxRecDepth 100000 in
set_option maxHeartbeats 800000 in
theorem checkNil_any (who : ByteArray) (m e : Int) (w : World) : Calls Tryd.prog 43 #[.pointer none, .string who, .int .i64 m, .int .i64 e] w fun r w' => r = .returned (.int .i64 1) ∧ w = w' := by
  go_enter Tryd.func43, Tryd.ntmps43
  go_wp2
  go_ret
  exact ⟨rfl, rfl⟩
set_option maxRecDepth 100000 in
set_option maxHeartbeats 800000 in
theorem openNil_any (who : ByteArray) (us m e : Int) (w : World) : Calls Tryd.prog 20 #[.pointer none, .string who, .agg #[.int .i64 us, .slice none 0 0], .int .i64 m, .int .i64 e] w fun r w' => r = .returned (.int .i64 1) ∧ Below w.heap.size w w' := by
  have HB : Hid (∀ o1, Below w.heap.size w (w.alloc o1)) := fun o1 => (Below.refl _ _).alloc (Nat.le_refl _) _
  go_enter Tryd.func20, Tryd.ntmps20
  go_wp2_with fail
  refine (checkNil_any who m e _).mono ?_
  rintro r w1 ⟨rfl, rfl⟩
  go_wp2
  go_ret
  exact ⟨rfl, HB.out _⟩
set_option maxRecDepth 100000 in
set_option maxHeartbeats 800000 in
theorem closeNil_any (who : ByteArray) (m e : Int) (w : World) : Calls Tryd.prog 26 #[.pointer none, .string who, .int .i64 m, .int .i64 e] w fun r w' => r = .returned (.int .i64 1) ∧ Below w.heap.size w w' := by
  go_enter Tryd.func26, Tryd.ntmps26
  go_wp2_with fail
  refine (checkNil_any who m e _).mono ?_
  rintro r w1 ⟨rfl, rfl⟩
  go_wp2
  go_ret
  exact ⟨rfl, Below.refl _ _⟩
set_option maxRecDepth 100000 in
set_option maxHeartbeats 800000 in
theorem arriveNil_any (a b : ByteArray) (m e : Int) (w : World) : Calls Tryd.prog 22 #[.pointer none, .int .i64 m, .int .i64 e, .agg #[.string a, .string b]] w fun r w' => r = .returned (.int .i64 1) ∧ Below w.heap.size w w' := by
  have HB : Hid (∀ o1, Below w.heap.size w (w.alloc o1)) := fun o1 => (Below.refl _ _).alloc (Nat.le_refl _) _
  go_enter Tryd.func22, Tryd.ntmps22
  go_wp2_with fail
  refine (checkNil_any ⟨#[]⟩ m e _).mono ?_
  rintro r w1 ⟨rfl, rfl⟩
  go_wp2
  go_ret
  exact ⟨rfl, HB.out _⟩
set_option maxRecDepth 100000 in
set_option maxHeartbeats 800000 in
theorem receiveNil_any (who : ByteArray) (m e : Int) (w : World) : Calls Tryd.prog 24 #[.pointer none, .string who, .int .i64 m, .int .i64 e] w fun r w' => r = .returned (.tuple #[.agg #[.string ⟨#[]⟩, .string ⟨#[]⟩], .int .i64 1]) ∧ Below w.heap.size w w' := by
  have HB : Hid (∀ o1 o2, Below w.heap.size w ((w.alloc o1).alloc o2)) := fun o1 o2 => ((Below.refl _ _).alloc (Nat.le_refl _) _).alloc (by simp) _
  go_enter Tryd.func24, Tryd.ntmps24
  go_wp2_with fail
  refine (checkNil_any who m e _).mono ?_
  rintro r w1 ⟨rfl, rfl⟩
  go_wp2
  refine bodyPost_ret (v := .tuple #[.agg #[.string ⟨#[]⟩, .string ⟨#[]⟩], .int .i64 1]) (by simp [results, Tryd.results24, go_sem]) rfl ?_
  exact ⟨rfl, HB.out _ _⟩
set_option maxRecDepth 100000 in
set_option maxHeartbeats 800000 in
theorem getNil_any (m e : Int) (w : World) : Calls Tryd.prog 25 #[.pointer none, .int .i64 m, .int .i64 e] w fun r w' => r = .returned (.tuple #[.agg #[.string ⟨#[]⟩, .int .i64 0, .int .i64 0, .slice none 0 0], .int .i64 1]) ∧ Below w.heap.size w w' := by
  have HB : Hid (∀ o1, Below w.heap.size w (w.alloc o1)) := fun o1 => (Below.refl _ _).alloc (Nat.le_refl _) _
  go_enter Tryd.func25, Tryd.ntmps25
  go_wp2_with fail
  refine (checkNil_any ⟨#[]⟩ m e _).mono ?_
  rintro r w1 ⟨rfl, rfl⟩
  go_wp2
  refine bodyPost_ret (v := .tuple #[.agg #[.string ⟨#[]⟩, .int .i64 0, .int .i64 0, .slice none 0 0], .int .i64 1]) (by simp [results, Tryd.results25, go_sem]) rfl ?_
  exact ⟨rfl, HB.out _⟩

end Go.Proofs.YtalpkndlnfgjfaaDoor
