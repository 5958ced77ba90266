/- Law 32: known. -/
import Derived.Test.YtemmeopaihmlcaaGreatDoorPipS
import Derived.Test.YtemmeopaihmlcaaGreatDoorMem
namespace Go.Proofs.YtemmeopaihmlcaaGreatDoor
open Go.RowKit
attribute [local go_sem ↓] Go.wp_at_zero Go.wp_at_succ

def kp0 : PipeT := ⟨4, 1, 1, ⟨#[]⟩⟩
def kp1 : PipeT := ⟨4, 1, 1, ⟨#[97, 98, 99]⟩⟩
def kp2 : PipeT := ⟨4, 1, 1, ⟨#[99]⟩⟩
def kp5 : PipeT := ⟨4, 1, 0, ⟨#[]⟩⟩
theorem kp_ep : pEpochB 4 = true := by decide +kernel
theorem kp_make : (if (none : Option PipeT).isSome = true then ((none : Option PipeT), 13, 0) else (some ⟨4, 1, 1, ⟨#[]⟩⟩, 0, 1)) = (some kp0, 0, 1) := by decide +kernel
theorem kp_write : pStep (opWrite ⟨#[97, 98, 99]⟩) 4 (some kp0) = (some kp1, 0, 1) ∧ (if 0 = 0 then writeN ⟨#[97, 98, 99]⟩ (pHas 4 (some kp0)).1 else 0) = 3 := by decide +kernel
theorem kp_read1 : pStep (opRead 2) 4 (some kp1) = (some kp2, 0, 1) ∧ (if 0 = 0 then readB 2 (pHas 4 (some kp1)).1 else ⟨#[]⟩) = ⟨#[97, 98]⟩ := by decide +kernel
theorem kp_read2 : pStep (opRead 2) 4 (some kp2) = (some kp0, 0, 1) ∧ (if 0 = 0 then readB 2 (pHas 4 (some kp2)).1 else ⟨#[]⟩) = ⟨#[99]⟩ := by decide +kernel
theorem kp_read3 : pStep (opRead 2) 4 (some kp0) = (some kp0, 19, 0) ∧ (if 19 = 0 then readB 2 (pHas 4 (some kp0)).1 else ⟨#[]⟩) = ⟨#[]⟩ := by decide +kernel
theorem kp_leave1 : pStep (opLeave true) 4 (some kp0) = (some kp5, 0, 1) := by decide +kernel
theorem kp_read4 : pStep (opRead 2) 4 (some kp5) = (some kp5, 0, 0) ∧ (if 0 = 0 then readB 2 (pHas 4 (some kp5)).1 else ⟨#[]⟩) = ⟨#[]⟩ := by decide +kernel
theorem kp_leave2 : pStep (opLeave false) 4 (some kp5) = (none, 0, 1) := by decide +kernel
theorem kp_get : pHas 4 none = (zeroP, 8) := rfl
theorem kp_sz3 (b c d : UInt8) : (⟨#[b, c, d]⟩ : ByteArray).size ≤ 9223372036854775807 := by
  have : (⟨#[b, c, d]⟩ : ByteArray).size = 3 := rfl
  rw [this]; decide

set_option maxRecDepth 100000 in
set_option maxHeartbeats 1600000 in
theorem pKnown_any (w : World) (hu : Usages w) : Calls Tryz.prog 26 #[] w fun r w' => r = .returned (.bool true) ∧ Below w.heap.size w w' := by
  have Hu := Lib.hid hu; clear hu
  go_enter Tryz.func26, Tryz.ntmps26
  go_wp2_with fail
  refine (spNew w Hu.out).mono ?_
  rintro e w1 ⟨rfl, hnew⟩
  have Hnew := Lib.hid hnew; clear hnew
  go_wp2_with fail
  refine Hnew.out.mono ?_
  rintro e w2 ⟨rfl, s0⟩
  clear Hnew
  have S0 := Lib.hid s0; clear s0
  go_wp2_with fail
  refine (one_any _).mono ?_
  rintro e w3 ⟨rfl, hb⟩
  have S1 := Lib.hid (S0.out.later hb); clear hb S0
  go_wp2_with fail
  refine (spMake w w3 _ 0 none _ 4 S1.out (by decide) kp_ep (some kp0) 0 1 kp_make).mono ?_
  rintro e w4 ⟨rfl, s, -⟩
  have S2 := Lib.hid s; clear s S1
  go_wp2_with fail
  refine (one_any _).mono ?_
  rintro e w5 ⟨rfl, hb⟩
  have S3 := Lib.hid (S2.out.later hb); clear hb S2
  go_wp2_with fail
  refine (spWrite w w5 _ _ _ _ 4 S3.out (by decide) kp_ep ⟨#[97, 98, 99]⟩ (kp_sz3 _ _ _) (some kp1) 0 1 kp_write.1 3 kp_write.2).mono ?_
  rintro e w6 ⟨rfl, s, -⟩
  have S4 := Lib.hid s; clear s S3
  go_wp2_with fail
  refine (one_any _).mono ?_
  rintro e w7 ⟨rfl, hb⟩
  have S5 := Lib.hid (S4.out.later hb); clear hb S4
  go_wp2_with fail
  refine (spRead w w7 _ _ _ _ 4 S5.out (by decide) kp_ep 2 (by decide) (some kp2) 0 1 kp_read1.1 ⟨#[97, 98]⟩ kp_read1.2).mono ?_
  rintro e w8 ⟨rfl, s, -⟩
  have S6 := Lib.hid s; clear s S5
  go_wp2_with fail
  refine (one_any _).mono ?_
  rintro e w9 ⟨rfl, hb⟩
  have S7 := Lib.hid (S6.out.later hb); clear hb S6
  go_wp2_with fail
  refine (spRead w w9 _ _ _ _ 4 S7.out (by decide) kp_ep 2 (by decide) (some kp0) 0 1 kp_read2.1 ⟨#[99]⟩ kp_read2.2).mono ?_
  rintro e w10 ⟨rfl, s, -⟩
  have S8 := Lib.hid s; clear s S7
  go_wp2_with fail
  refine (one_any _).mono ?_
  rintro e w11 ⟨rfl, hb⟩
  have S9 := Lib.hid (S8.out.later hb); clear hb S8
  go_wp2_with fail
  refine (spRead w w11 _ _ _ _ 4 S9.out (by decide) kp_ep 2 (by decide) (some kp0) 19 0 kp_read3.1 ⟨#[]⟩ kp_read3.2).mono ?_
  rintro e w12 ⟨rfl, s, -⟩
  have S10 := Lib.hid s; clear s S9
  go_wp2_with fail
  refine (one_any _).mono ?_
  rintro e w13 ⟨rfl, hb⟩
  have S11 := Lib.hid (S10.out.later hb); clear hb S10
  go_wp2_with fail
  refine (spLeave w w13 _ _ _ _ 4 S11.out (by decide) kp_ep true (some kp5) 0 1 kp_leave1).mono ?_
  rintro e w14 ⟨rfl, s, -⟩
  have S12 := Lib.hid s; clear s S11
  go_wp2_with fail
  refine (one_any _).mono ?_
  rintro e w15 ⟨rfl, hb⟩
  have S13 := Lib.hid (S12.out.later hb); clear hb S12
  go_wp2_with fail
  refine (spRead w w15 _ _ _ _ 4 S13.out (by decide) kp_ep 2 (by decide) (some kp5) 0 0 kp_read4.1 ⟨#[]⟩ kp_read4.2).mono ?_
  rintro e w16 ⟨rfl, s, -⟩
  have S14 := Lib.hid s; clear s S13
  go_wp2_with fail
  refine (one_any _).mono ?_
  rintro e w17 ⟨rfl, hb⟩
  have S15 := Lib.hid (S14.out.later hb); clear hb S14
  go_wp2_with fail
  refine (spLeave w w17 _ _ _ _ 4 S15.out (by decide) kp_ep false none 0 1 kp_leave2).mono ?_
  rintro e w18 ⟨rfl, s, -⟩
  have S16 := Lib.hid s; clear s S15
  go_wp2_with fail
  refine (one_any _).mono ?_
  rintro e w19 ⟨rfl, hb⟩
  have S17 := Lib.hid (S16.out.later hb); clear hb S16
  go_wp2_with fail
  refine (spGet w w19 _ _ _ _ 4 S17.out kp_ep zeroP 8 kp_get).mono ?_
  rintro e w20 ⟨rfl, s, -⟩
  have S18 := Lib.hid s.below; clear s S17
  dsimp only [pipeV, zeroP]
  go_wp2
  go_ret
  exact ⟨rfl, S18.out.trans (((Below.refl _ _).alloc (Nat.le_refl _) _).mono S18.out.size)⟩

end Go.Proofs.YtemmeopaihmlcaaGreatDoor
