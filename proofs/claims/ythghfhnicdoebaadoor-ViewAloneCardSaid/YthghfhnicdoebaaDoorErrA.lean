/- Names that Check refuses: state.Without, Apply; the view's Get, Has, Set, Delete. -/
import Derived.Test.YthghfhnicdoebaaDoorChkA
import Derived.Test.YthghfhnicdoebaaDoorStaI
import Derived.Deep.LoopGhost
namespace Go.Proofs.YthghfhnicdoebaaDoor
open Go.RowKit

theorem nameOk_of {n : NameT} (hf : FitN n) (h : checkE n = 0) : NameOk n := ⟨hf, fun W hu => by
  have := checkName_any n W hu hf
  rwa [h] at this⟩

section
variable (b : Nat) (n : NameT) (w : World) (hu : Usages w) (hf : FitN n) (he : checkE n ≠ 0)
include hu hf he
set_option maxRecDepth 100000 in
set_option maxHeartbeats 1000000 in
theorem vGet_bad : Calls Tryd.prog 12 #[.pointer (some ⟨b, 0, none⟩), nameV n] w fun r w' => r = .returned (.tuple #[.string ⟨#[]⟩, .bool false]) ∧ Below w.heap.size w w' := by
  have HBo : Hid (∀ o, Below w.heap.size w (w.alloc o)) := fun o => (Below.refl _ _).alloc (Nat.le_refl _) _
  have HC : Hid (∀ o, Calls Tryd.prog 29 #[nameV n] (w.alloc o) fun r w' => r = .returned (.int .i64 (checkE n)) ∧ Below (w.alloc o).heap.size (w.alloc o) w') := fun o => checkName_any n _ (hu.below (HBo.out o) hu.pos) hf
  have h2 : (checkE n != 0) = true := bne_iff_ne.2 he
  have h3 : (checkE n == 0) = false := beq_eq_false_iff_ne.2 he
  clear hu hf he
  generalize checkE n = c at *
  obtain ⟨n1, n2, n3, n4, n5⟩ := n
  dsimp only [nameV] at *
  go_enter Tryd.func12, Tryd.ntmps12
  go_wp2_with fail
  refine (HC.out _).mono ?_
  rintro e w1 ⟨rfl, hb1⟩
  have HB1 : Hid (Below w.heap.size w w1) := (HBo.out _).trans (hb1.mono (HBo.out _).size)
  clear hb1
  go_wp2
  go_ret2
  exact ⟨rfl, HB1.out⟩
set_option maxRecDepth 100000 in
set_option maxHeartbeats 1000000 in
theorem vSet_bad (x : ByteArray) : Calls Tryd.prog 11 #[.pointer (some ⟨b, 0, none⟩), nameV n, .string x] w fun r w' => r = .returned (.int .i64 12) ∧ Below w.heap.size w w' := by
  have HBo : Hid (∀ o, Below w.heap.size w (w.alloc o)) := fun o => (Below.refl _ _).alloc (Nat.le_refl _) _
  have HC : Hid (∀ o, Calls Tryd.prog 29 #[nameV n] (w.alloc o) fun r w' => r = .returned (.int .i64 (checkE n)) ∧ Below (w.alloc o).heap.size (w.alloc o) w') := fun o => checkName_any n _ (hu.below (HBo.out o) hu.pos) hf
  have h2 : (checkE n != 0) = true := bne_iff_ne.2 he
  have h3 : (checkE n == 0) = false := beq_eq_false_iff_ne.2 he
  clear hu hf he
  generalize checkE n = c at *
  obtain ⟨n1, n2, n3, n4, n5⟩ := n
  dsimp only [nameV] at *
  go_enter Tryd.func11, Tryd.ntmps11
  go_wp2_with fail
  refine (HC.out _).mono ?_
  rintro e w1 ⟨rfl, hb1⟩
  have HB1 : Hid (Below w.heap.size w w1) := (HBo.out _).trans (hb1.mono (HBo.out _).size)
  clear hb1
  go_wp2
  go_ret
  exact ⟨rfl, HB1.out⟩
set_option maxRecDepth 100000 in
set_option maxHeartbeats 1000000 in
theorem vDel_bad : Calls Tryd.prog 13 #[.pointer (some ⟨b, 0, none⟩), nameV n] w fun r w' => r = .returned (.int .i64 12) ∧ Below w.heap.size w w' := by
  have HBo : Hid (∀ o, Below w.heap.size w (w.alloc o)) := fun o => (Below.refl _ _).alloc (Nat.le_refl _) _
  have HC : Hid (∀ o, Calls Tryd.prog 29 #[nameV n] (w.alloc o) fun r w' => r = .returned (.int .i64 (checkE n)) ∧ Below (w.alloc o).heap.size (w.alloc o) w') := fun o => checkName_any n _ (hu.below (HBo.out o) hu.pos) hf
  have h2 : (checkE n != 0) = true := bne_iff_ne.2 he
  have h3 : (checkE n == 0) = false := beq_eq_false_iff_ne.2 he
  clear hu hf he
  generalize checkE n = c at *
  obtain ⟨n1, n2, n3, n4, n5⟩ := n
  dsimp only [nameV] at *
  go_enter Tryd.func13, Tryd.ntmps13
  go_wp2_with fail
  refine (HC.out _).mono ?_
  rintro e w1 ⟨rfl, hb1⟩
  have HB1 : Hid (Below w.heap.size w w1) := (HBo.out _).trans (hb1.mono (HBo.out _).size)
  clear hb1
  go_wp2
  go_ret
  exact ⟨rfl, HB1.out⟩
set_option maxRecDepth 100000 in
set_option maxHeartbeats 1000000 in
theorem vHas_bad : Calls Tryd.prog 14 #[.pointer (some ⟨b, 0, none⟩), nameV n] w fun r w' => r = .returned (.bool false) ∧ Below w.heap.size w w' := by
  have HG : Hid (∀ W, Below w.heap.size w W → Calls Tryd.prog 12 #[.pointer (some ⟨b, 0, none⟩), nameV n] W fun r w' => r = .returned (.tuple #[.string ⟨#[]⟩, .bool false]) ∧ Below W.heap.size W w') := fun W hW => vGet_bad b n W (hu.below hW hu.pos) hf he
  have HBo : Hid (∀ o, Below w.heap.size w (w.alloc o)) := fun o => (Below.refl _ _).alloc (Nat.le_refl _) _
  clear hu hf he
  obtain ⟨n1, n2, n3, n4, n5⟩ := n
  dsimp only [nameV] at *
  go_enter Tryd.func14, Tryd.ntmps14
  go_wp2_with fail
  refine (HG.out _ (by first | exact Below.refl _ _ | exact HBo.out _)).mono ?_
  rintro e w1 ⟨rfl, hb1⟩
  have HB1 : Hid (Below w.heap.size w w1) := by first | exact hb1 | exact (HBo.out _).trans (hb1.mono (HBo.out _).size)
  clear hb1
  go_wp2
  go_ret
  exact ⟨rfl, HB1.out⟩
end
end Go.Proofs.YthghfhnicdoebaaDoor
