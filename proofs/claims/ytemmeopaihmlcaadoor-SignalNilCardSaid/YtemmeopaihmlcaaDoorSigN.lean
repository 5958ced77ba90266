/- signal: Waiting; law 33: known. -/
import Derived.Test.YtemmeopaihmlcaaDoorSigM
import Derived.Test.YtemmeopaihmlcaaDoorTrue
namespace Go.Proofs.YtemmeopaihmlcaaDoor
open Go.RowKit
attribute [local go_sem ↓] Go.wp_at_zero Go.wp_at_succ

set_option maxRecDepth 100000 in
set_option maxHeartbeats 1600000 in
theorem srWaiting (w0 w : World) (b N : Nat) (m : ByteArray) (G : Nat → Prop) (p bl i h0 h1 h2 h3 h4 h5 h6 h7 : Int) (s : SR w0 w b N m (some ⟨p, bl, i, h0, h1, h2, h3, h4, h5, h6, h7⟩) G) (hm : validB m = true ∧ m.size ≤ 70368744177664) (hnx : nextB ⟨p, bl, i, h0, h1, h2, h3, h4, h5, h6, h7⟩ = 0) :
    Calls Tryd.prog 24 #[.pointer (some ⟨b, 0, none⟩), .string m] w (SRP w0 b N m (some ⟨p, bl, i, h0, h1, h2, h3, h4, h5, h6, h7⟩) G w (.bool false)) := by
  go_enter Tryd.func24, Tryd.ntmps24
  go_wp2_with fail
  refine (srGet w0 w b N m _ G s hm).mono ?_
  rintro r w3 ⟨rfl, s3, hk3⟩
  clear s
  have S3 : Hid (∀ o', SR w0 (w3.alloc o') b N m (some ⟨p, bl, i, h0, h1, h2, h3, h4, h5, h6, h7⟩) G) := fun o' => s3.later ((Below.refl _ _).alloc (Nat.le_refl _) _)
  have HG3 : Hid (∀ o', ∀ k, G k → (w3.alloc o').heap[k]? = w.heap[k]?) := fun o' k hk => (s3.gk ((Below.refl _ _).alloc (Nat.le_refl _) _) k hk).trans (hk3 k hk)
  clear s3 hk3
  dsimp only [rHas, recV, rCells]
  go_wp2_with fail
  refine (next_is p bl i h0 h1 h2 h3 h4 h5 h6 h7 _ hnx _).mono ?_
  rintro r w4 ⟨rfl, hb⟩
  have S4 := Lib.hid ((S3.out _).later hb)
  have HG4 : Hid (∀ k, G k → w4.heap[k]? = w.heap[k]?) := fun k hk => ((S3.out _).gk hb k hk).trans (HG3.out _ k hk)
  clear hb S3 HG3
  go_wp2
  go_ret
  exact ⟨rfl, S4.out, HG4.out⟩

theorem one_ok : validB ⟨#[49]⟩ = true ∧ (⟨#[49]⟩ : ByteArray).size ≤ 70368744177664 := ⟨by decide +kernel, by decide⟩
theorem two_ok : validB ⟨#[49, 46, 50]⟩ = true ∧ (⟨#[49, 46, 50]⟩ : ByteArray).size ≤ 70368744177664 := ⟨by decide +kernel, by decide⟩
theorem three_ok : validB ⟨#[49, 46, 51]⟩ = true ∧ (⟨#[49, 46, 51]⟩ : ByteArray).size ≤ 70368744177664 := ⟨by decide +kernel, by decide⟩
theorem near1 : nearB ⟨#[49, 46, 50]⟩ ⟨#[49]⟩ = true := by decide +kernel
theorem near2 : nearB ⟨#[49, 46, 50]⟩ ⟨#[49, 46, 51]⟩ = false := by decide +kernel
theorem or1 : orP 0 2 = 4 := by decide +kernel
theorem or2 : orP 4 6 = 68 := by decide +kernel
theorem ck4 : checkR ⟨4, 0, 0, 0, 0, 0, 0, 0, 0, 0, 0⟩ = 0 := by decide +kernel
theorem ck68 : checkR ⟨68, 0, 0, 0, 0, 0, 0, 0, 0, 0, 0⟩ = 0 := by decide +kernel
theorem ck64 : checkR ⟨64, 0, 0, 0, 0, 0, 0, 0, 0, 0, 0⟩ = 0 := by decide +kernel
theorem wo1 : withoutB ⟨0, 0, 0, 0, 0, 0, 0, 0, 0, 0, 0⟩ 2 = false := by decide +kernel
theorem wo2 : withoutB ⟨4, 0, 0, 0, 0, 0, 0, 0, 0, 0, 0⟩ 6 = false := by decide +kernel
theorem nx1 : nextB ⟨68, 0, 0, 0, 0, 0, 0, 0, 0, 0, 0⟩ = (2 : Nat) := by decide +kernel
theorem nx2 : nextB ⟨64, 0, 0, 0, 0, 0, 0, 0, 0, 0, 0⟩ = (6 : Nat) := by decide +kernel
theorem nx3 : nextB ⟨0, 0, 0, 0, 0, 0, 0, 0, 0, 0, 0⟩ = 0 := by decide +kernel
theorem lf1 : leftP ⟨68, 0, 0, 0, 0, 0, 0, 0, 0, 0, 0⟩ (2 : Nat) 7 = 64 := by decide +kernel
theorem lf2 : leftP ⟨64, 0, 0, 0, 0, 0, 0, 0, 0, 0, 0⟩ (6 : Nat) 7 = 0 := by decide +kernel
theorem sm1 : sameRB ⟨64, 0, 0, 0, 0, 0, 0, 0, 0, 0, 0⟩ ⟨68, 0, 0, 0, 0, 0, 0, 0, 0, 0, 0⟩ = false := by decide
theorem sm2 : sameRB ⟨0, 0, 0, 0, 0, 0, 0, 0, 0, 0, 0⟩ ⟨64, 0, 0, 0, 0, 0, 0, 0, 0, 0, 0⟩ = false := by decide

set_option maxRecDepth 100000 in
set_option maxHeartbeats 4000000 in
theorem known33 (w : World) (hu : Usages w) : Calls Tryd.prog 6 #[] w fun r w' => r = .returned (.bool true) ∧ Below w.heap.size w w' := by
  go_enter Tryd.func6, Tryd.ntmps6
  go_wp2_with fail
  refine (srNew w hu ⟨#[49]⟩).mono ?_
  rintro r w1 ⟨rfl, hnext⟩
  have Hnext := Lib.hid hnext; clear hnext
  go_wp2_with fail
  refine Hnext.out.mono ?_
  rintro r w2 ⟨rfl, s2⟩
  clear Hnext hu
  have S2 := Lib.hid s2; clear s2
  go_wp2_with fail
  refine (srMake w w2 _ 0 ⟨#[49]⟩ _ S2.out one_ok (by omega)).mono ?_
  rintro r w3 ⟨rfl, s3, -⟩
  have S3 := Lib.hid s3; clear s3 S2
  go_wp2_with fail
  refine (srSend w w3 _ _ ⟨#[49]⟩ _ 0 0 0 0 0 0 0 0 0 0 0 S3.out one_ok (by omega) ⟨#[49, 46, 50]⟩ 2 two_ok (by omega) near1 wo1 4 or1 ck4).mono ?_
  rintro r w4 ⟨rfl, s4, -⟩
  have S4 := Lib.hid s4; clear s4 S3
  go_wp2_with fail
  refine (srSend w w4 _ _ ⟨#[49]⟩ _ 4 0 0 0 0 0 0 0 0 0 0 S4.out one_ok (by omega) ⟨#[49, 46, 50]⟩ 6 two_ok (by omega) near1 wo2 68 or2 ck68).mono ?_
  rintro r w5 ⟨rfl, s5, -⟩
  have S5 := Lib.hid s5; clear s5 S4
  go_wp2_with fail
  refine (sSend_denied w5 _ ⟨#[49, 46, 50]⟩ ⟨#[49, 46, 51]⟩ 6 two_ok three_ok (by decide) near2).mono ?_
  rintro r w6 ⟨rfl, hb⟩
  have S6 := Lib.hid (S5.out.later hb); clear hb S5
  go_wp2_with fail
  refine (srTake w w6 _ _ ⟨#[49]⟩ _ 68 0 0 0 0 0 0 0 0 0 0 S6.out one_ok (by omega) 2 (by omega) nx1 rfl 64 lf1 sm1 ck64).mono ?_
  rintro r w7 ⟨rfl, s7, -⟩
  have S7 := Lib.hid s7; clear s7 S6
  go_wp2_with fail
  refine (srTake w w7 _ _ ⟨#[49]⟩ _ 64 0 0 0 0 0 0 0 0 0 0 S7.out one_ok (by omega) 6 (by omega) nx2 rfl 0 lf2 sm2 zero_ok).mono ?_
  rintro r w8 ⟨rfl, s8, -⟩
  have S8 := Lib.hid s8; clear s8 S7
  go_wp2_with fail
  refine (srWaiting w w8 _ _ ⟨#[49]⟩ _ 0 0 0 0 0 0 0 0 0 0 0 S8.out one_ok nx3).mono ?_
  rintro r w9 ⟨rfl, s9, -⟩
  have S9 := Lib.hid s9; clear s9 S8
  go_wp2
  go_ret
  exact ⟨rfl, S9.out.below⟩

end Go.Proofs.YtemmeopaihmlcaaDoor
