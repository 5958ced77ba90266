/- Law 32: same, for a result that is the reference's: Make, Join, Leave, Read. -/
import Derived.Test.YtemmeopaihmlcaaGreatDoorSmeA
namespace Go.Proofs.YtemmeopaihmlcaaGreatDoor
open Go.RowKit
attribute [local go_sem ↓] Go.wp_at_zero Go.wp_at_succ
attribute [local go_sem ↓] run_eql_pipe

set_option maxRecDepth 100000 in
set_option maxHeartbeats 1600000 in
theorem sm_make (ep re wr : Int) (by_ : ByteArray) (kd : Nat) (e n : Int) (s : ByteArray) (x : Bool) (hk : kd % 8 = 0) (hkd : kd ≤ 255) (he : pEpochB e = true)  (a b c : Int) (d : ByteArray) (q : Nat) (hst : rMake ⟨ep, re, wr, by_⟩ e = (⟨a, b, c, d⟩, q)) (w : World) :
    Calls Tryz.prog 37 #[.agg #[.int .i64 ep, .int .i64 re, .int .i64 wr, .string by_], .agg #[.int .u8 kd, .int .i64 e, .int .i64 n, .string s, .bool x], .agg #[.int .i64 q, .int .i64 0, .string ⟨#[]⟩, .int .i64 0, .int .i64 0, .int .i64 0, .string ⟨#[]⟩]] w (SmP w ⟨a, b, c, d⟩) := by
  have Hst := Lib.hid hst; clear hst
  have hlt : kd < 256 := by omega
  obtain ⟨he0, he1⟩ := epoch_tests he
  clear he
  have HS := Lib.hid (sm_start w (#[.int .u8 kd, .int .i64 e, .int .i64 n, .string s, .bool x]) (#[.int .i64 q, .int .i64 0, .string ⟨#[]⟩, .int .i64 0, .int .i64 0, .int .i64 0, .string ⟨#[]⟩]) ⟨ep, re, wr, by_⟩)
  unfold smW0 pCells at HS
  dsimp only at HS
  have hk' : (kd : Int) % 8 = 0 := by omega
  clear hk
  go_enter Tryz.func37, Tryz.ntmps37
  go_wp2_with fail
  generalize hR : w.heap.size = R at *
  refine (rfMake_any ep re wr by_ e _).mono ?_
  rw [Hst.out]
  rintro r w1 ⟨rfl, hb⟩
  have H3 := Lib.hid (HS.out.later hb)
  clear hb HS
  have n0 : w1.cell? ⟨R + 1 + 1 + 1, 0, none⟩ = some (.int .i64 ep) := H3.out.cellN 0 rfl
  have n1 : w1.cell? ⟨R + 1 + 1 + 1, 1, none⟩ = some (.int .i64 re) := H3.out.cellN 1 rfl
  have n2 : w1.cell? ⟨R + 1 + 1 + 1, 2, none⟩ = some (.int .i64 wr) := H3.out.cellN 2 rfl
  have n3 : w1.cell? ⟨R + 1 + 1 + 1, 3, none⟩ = some (.string by_) := H3.out.cellN 3 rfl
  have nf : ∀ i, w1.frozen? ⟨R + 1 + 1 + 1, i, none⟩ = false := fun i => frozen_of_heap H3.out.bn i
  dsimp only [pipeV]
  go_upto_region 22 with fail
  have H4 := Lib.hid (H3.out.next ⟨a, b, c, d⟩)
  dsimp only at H4
  clear n0 n1 n2 n3 nf H3
  generalize ((((w1.setCell ⟨R + 1 + 1 + 1, 0, none⟩ (.int .i64 a)).setCell ⟨R + 1 + 1 + 1, 1, none⟩ (.int .i64 b)).setCell ⟨R + 1 + 1 + 1, 2, none⟩ (.int .i64 c)).setCell ⟨R + 1 + 1 + 1, 3, none⟩ (.string d)) = W at *
  have hcmp : samePB ⟨0, 0, 0, ⟨#[]⟩⟩ ⟨0, 0, 0, ⟨#[]⟩⟩ = true := decide_eq_true rfl
  obtain ⟨r0, r1, r2, r3, r4, r5, r6, n0, n1, n2, n3, g0, g1, g2, g3⟩ := H4.out.reads
  dsimp only at n0 n1 n2 n3 g0 g1 g2 g3
  have S0 : Hid (W.cell? ⟨R + 1 + 1, 0, none⟩ = some (.int .i64 q) ∧ W.cell? ⟨R + 1 + 1, 1, none⟩ = some (.int .i64 0) ∧ W.cell? ⟨R + 1 + 1, 2, none⟩ = some (.string ⟨#[]⟩) ∧ W.cell? ⟨R + 1 + 1, 3, none⟩ = some (.int .i64 0) ∧ W.cell? ⟨R + 1 + 1, 4, none⟩ = some (.int .i64 0) ∧ W.cell? ⟨R + 1 + 1, 5, none⟩ = some (.int .i64 0) ∧ W.cell? ⟨R + 1 + 1, 6, none⟩ = some (.string ⟨#[]⟩) ∧ W.cell? ⟨R + 1 + 1 + 1, 0, none⟩ = some (.int .i64 a) ∧ W.cell? ⟨R + 1 + 1 + 1, 1, none⟩ = some (.int .i64 b) ∧ W.cell? ⟨R + 1 + 1 + 1, 2, none⟩ = some (.int .i64 c) ∧ W.cell? ⟨R + 1 + 1 + 1, 3, none⟩ = some (.string d) ∧ W.cell? ⟨R + 1 + 1 + 1 + 1, 0, none⟩ = some (.int .i64 0) ∧ W.cell? ⟨R + 1 + 1 + 1 + 1, 1, none⟩ = some (.int .i64 0) ∧ W.cell? ⟨R + 1 + 1 + 1 + 1, 2, none⟩ = some (.int .i64 0) ∧ W.cell? ⟨R + 1 + 1 + 1 + 1, 3, none⟩ = some (.string ⟨#[]⟩)) := ⟨r0, r1, r2, r3, r4, r5, r6, n0, n1, n2, n3, g0, g1, g2, g3⟩
  go_region_held3 (fun w' => w'.cell? ⟨R + 1 + 1, 0, none⟩ = some (.int .i64 q) ∧ w'.cell? ⟨R + 1 + 1, 1, none⟩ = some (.int .i64 0) ∧ w'.cell? ⟨R + 1 + 1, 2, none⟩ = some (.string ⟨#[]⟩) ∧ w'.cell? ⟨R + 1 + 1, 3, none⟩ = some (.int .i64 0) ∧ w'.cell? ⟨R + 1 + 1, 4, none⟩ = some (.int .i64 0) ∧ w'.cell? ⟨R + 1 + 1, 5, none⟩ = some (.int .i64 0) ∧ w'.cell? ⟨R + 1 + 1, 6, none⟩ = some (.string ⟨#[]⟩) ∧ w'.cell? ⟨R + 1 + 1 + 1, 0, none⟩ = some (.int .i64 a) ∧ w'.cell? ⟨R + 1 + 1 + 1, 1, none⟩ = some (.int .i64 b) ∧ w'.cell? ⟨R + 1 + 1 + 1, 2, none⟩ = some (.int .i64 c) ∧ w'.cell? ⟨R + 1 + 1 + 1, 3, none⟩ = some (.string d) ∧ w'.cell? ⟨R + 1 + 1 + 1 + 1, 0, none⟩ = some (.int .i64 0) ∧ w'.cell? ⟨R + 1 + 1 + 1 + 1, 1, none⟩ = some (.int .i64 0) ∧ w'.cell? ⟨R + 1 + 1 + 1 + 1, 2, none⟩ = some (.int .i64 0) ∧ w'.cell? ⟨R + 1 + 1 + 1 + 1, 3, none⟩ = some (.string ⟨#[]⟩)) (first | with_reducible exact S0.out | with_reducible exact S1.out | with_reducible exact S2.out | go_keep)
    (first
      | (go_at_call 100; refine (smTo_any 0 0 0 ⟨#[]⟩ _).mono ?_; rintro r v1 ⟨rfl, hb⟩; have H5 := Lib.hid (H4.out.drew.later hb); have S1 := Lib.hid H5.out.reads; unfold SmC at S1; dsimp only at S1; have H6 := Lib.hid (H5.out.next ⟨a, b, c, d⟩); dsimp only at H6; have S2 := Lib.hid H6.out.reads; unfold SmC at S2; dsimp only at S2; have nf : ∀ i, v1.frozen? ⟨R + 1 + 1 + 1, i, none⟩ = false := fun i => frozen_of_heap H5.out.bn i; clear hb)
      | fail)
  clear S0 S1 S2 n0 n1 n2 n3 g0 g1 g2 g3 r0 r1 r2 r3 r4 r5 r6 nf H4 H5
  generalize ((((v1.setCell ⟨R + 1 + 1 + 1, 0, none⟩ (.int .i64 a)).setCell ⟨R + 1 + 1 + 1, 1, none⟩ (.int .i64 b)).setCell ⟨R + 1 + 1 + 1, 2, none⟩ (.int .i64 c)).setCell ⟨R + 1 + 1 + 1, 3, none⟩ (.string d)) = W2 at *
  have n0 : W2.cell? ⟨R + 1 + 1 + 1, 0, none⟩ = some (.int .i64 a) := H6.out.cellN 0 rfl
  have n1 : W2.cell? ⟨R + 1 + 1 + 1, 1, none⟩ = some (.int .i64 b) := H6.out.cellN 1 rfl
  have n2 : W2.cell? ⟨R + 1 + 1 + 1, 2, none⟩ = some (.int .i64 c) := H6.out.cellN 2 rfl
  have n3 : W2.cell? ⟨R + 1 + 1 + 1, 3, none⟩ = some (.string d) := H6.out.cellN 3 rfl
  have HL := Lib.hid H6.out.low
  clear H6
  go_wp2
  refine bodyPost_ret (v := .tuple #[.agg #[.int .i64 a, .int .i64 b, .int .i64 c, .string d], .bool true]) (by simp [results, Tryz.results37, go_sem, n0, n1, n2, n3]) rfl ?_
  subst hR
  exact ⟨rfl, HL.out⟩

set_option maxRecDepth 100000 in
set_option maxHeartbeats 1600000 in
theorem sm_join (ep re wr : Int) (by_ : ByteArray) (kd : Nat) (e n : Int) (s : ByteArray) (x : Bool) (hk : kd % 8 = 5) (hkd : kd ≤ 255) (he : pEpochB e = true)  (a b c : Int) (d : ByteArray) (q : Nat) (hst : rJoin x ⟨ep, re, wr, by_⟩ e = (⟨a, b, c, d⟩, q)) (w : World) :
    Calls Tryz.prog 37 #[.agg #[.int .i64 ep, .int .i64 re, .int .i64 wr, .string by_], .agg #[.int .u8 kd, .int .i64 e, .int .i64 n, .string s, .bool x], .agg #[.int .i64 q, .int .i64 0, .string ⟨#[]⟩, .int .i64 0, .int .i64 0, .int .i64 0, .string ⟨#[]⟩]] w (SmP w ⟨a, b, c, d⟩) := by
  have Hst := Lib.hid hst; clear hst
  have hlt : kd < 256 := by omega
  obtain ⟨he0, he1⟩ := epoch_tests he
  clear he
  have HS := Lib.hid (sm_start w (#[.int .u8 kd, .int .i64 e, .int .i64 n, .string s, .bool x]) (#[.int .i64 q, .int .i64 0, .string ⟨#[]⟩, .int .i64 0, .int .i64 0, .int .i64 0, .string ⟨#[]⟩]) ⟨ep, re, wr, by_⟩)
  unfold smW0 pCells at HS
  dsimp only at HS
  have hk' : (kd : Int) % 8 = 5 := by omega
  clear hk
  go_enter Tryz.func37, Tryz.ntmps37
  go_wp2_with fail
  generalize hR : w.heap.size = R at *
  refine (rfJoin_any ep re wr by_ e x _).mono ?_
  rw [Hst.out]
  rintro r w1 ⟨rfl, hb⟩
  have H3 := Lib.hid (HS.out.later hb)
  clear hb HS
  have n0 : w1.cell? ⟨R + 1 + 1 + 1, 0, none⟩ = some (.int .i64 ep) := H3.out.cellN 0 rfl
  have n1 : w1.cell? ⟨R + 1 + 1 + 1, 1, none⟩ = some (.int .i64 re) := H3.out.cellN 1 rfl
  have n2 : w1.cell? ⟨R + 1 + 1 + 1, 2, none⟩ = some (.int .i64 wr) := H3.out.cellN 2 rfl
  have n3 : w1.cell? ⟨R + 1 + 1 + 1, 3, none⟩ = some (.string by_) := H3.out.cellN 3 rfl
  have nf : ∀ i, w1.frozen? ⟨R + 1 + 1 + 1, i, none⟩ = false := fun i => frozen_of_heap H3.out.bn i
  dsimp only [pipeV]
  go_upto_region 22 with fail
  have H4 := Lib.hid (H3.out.next ⟨a, b, c, d⟩)
  dsimp only at H4
  clear n0 n1 n2 n3 nf H3
  generalize ((((w1.setCell ⟨R + 1 + 1 + 1, 0, none⟩ (.int .i64 a)).setCell ⟨R + 1 + 1 + 1, 1, none⟩ (.int .i64 b)).setCell ⟨R + 1 + 1 + 1, 2, none⟩ (.int .i64 c)).setCell ⟨R + 1 + 1 + 1, 3, none⟩ (.string d)) = W at *
  have hcmp : samePB ⟨0, 0, 0, ⟨#[]⟩⟩ ⟨0, 0, 0, ⟨#[]⟩⟩ = true := decide_eq_true rfl
  obtain ⟨r0, r1, r2, r3, r4, r5, r6, n0, n1, n2, n3, g0, g1, g2, g3⟩ := H4.out.reads
  dsimp only at n0 n1 n2 n3 g0 g1 g2 g3
  have S0 : Hid (W.cell? ⟨R + 1 + 1, 0, none⟩ = some (.int .i64 q) ∧ W.cell? ⟨R + 1 + 1, 1, none⟩ = some (.int .i64 0) ∧ W.cell? ⟨R + 1 + 1, 2, none⟩ = some (.string ⟨#[]⟩) ∧ W.cell? ⟨R + 1 + 1, 3, none⟩ = some (.int .i64 0) ∧ W.cell? ⟨R + 1 + 1, 4, none⟩ = some (.int .i64 0) ∧ W.cell? ⟨R + 1 + 1, 5, none⟩ = some (.int .i64 0) ∧ W.cell? ⟨R + 1 + 1, 6, none⟩ = some (.string ⟨#[]⟩) ∧ W.cell? ⟨R + 1 + 1 + 1, 0, none⟩ = some (.int .i64 a) ∧ W.cell? ⟨R + 1 + 1 + 1, 1, none⟩ = some (.int .i64 b) ∧ W.cell? ⟨R + 1 + 1 + 1, 2, none⟩ = some (.int .i64 c) ∧ W.cell? ⟨R + 1 + 1 + 1, 3, none⟩ = some (.string d) ∧ W.cell? ⟨R + 1 + 1 + 1 + 1, 0, none⟩ = some (.int .i64 0) ∧ W.cell? ⟨R + 1 + 1 + 1 + 1, 1, none⟩ = some (.int .i64 0) ∧ W.cell? ⟨R + 1 + 1 + 1 + 1, 2, none⟩ = some (.int .i64 0) ∧ W.cell? ⟨R + 1 + 1 + 1 + 1, 3, none⟩ = some (.string ⟨#[]⟩)) := ⟨r0, r1, r2, r3, r4, r5, r6, n0, n1, n2, n3, g0, g1, g2, g3⟩
  go_region_held3 (fun w' => w'.cell? ⟨R + 1 + 1, 0, none⟩ = some (.int .i64 q) ∧ w'.cell? ⟨R + 1 + 1, 1, none⟩ = some (.int .i64 0) ∧ w'.cell? ⟨R + 1 + 1, 2, none⟩ = some (.string ⟨#[]⟩) ∧ w'.cell? ⟨R + 1 + 1, 3, none⟩ = some (.int .i64 0) ∧ w'.cell? ⟨R + 1 + 1, 4, none⟩ = some (.int .i64 0) ∧ w'.cell? ⟨R + 1 + 1, 5, none⟩ = some (.int .i64 0) ∧ w'.cell? ⟨R + 1 + 1, 6, none⟩ = some (.string ⟨#[]⟩) ∧ w'.cell? ⟨R + 1 + 1 + 1, 0, none⟩ = some (.int .i64 a) ∧ w'.cell? ⟨R + 1 + 1 + 1, 1, none⟩ = some (.int .i64 b) ∧ w'.cell? ⟨R + 1 + 1 + 1, 2, none⟩ = some (.int .i64 c) ∧ w'.cell? ⟨R + 1 + 1 + 1, 3, none⟩ = some (.string d) ∧ w'.cell? ⟨R + 1 + 1 + 1 + 1, 0, none⟩ = some (.int .i64 0) ∧ w'.cell? ⟨R + 1 + 1 + 1 + 1, 1, none⟩ = some (.int .i64 0) ∧ w'.cell? ⟨R + 1 + 1 + 1 + 1, 2, none⟩ = some (.int .i64 0) ∧ w'.cell? ⟨R + 1 + 1 + 1 + 1, 3, none⟩ = some (.string ⟨#[]⟩)) (first | with_reducible exact S0.out | with_reducible exact S1.out | with_reducible exact S2.out | go_keep)
    (first
      | (go_at_call 100; refine (smTo_any 0 0 0 ⟨#[]⟩ _).mono ?_; rintro r v1 ⟨rfl, hb⟩; have H5 := Lib.hid (H4.out.drew.later hb); have S1 := Lib.hid H5.out.reads; unfold SmC at S1; dsimp only at S1; have H6 := Lib.hid (H5.out.next ⟨a, b, c, d⟩); dsimp only at H6; have S2 := Lib.hid H6.out.reads; unfold SmC at S2; dsimp only at S2; have nf : ∀ i, v1.frozen? ⟨R + 1 + 1 + 1, i, none⟩ = false := fun i => frozen_of_heap H5.out.bn i; clear hb)
      | fail)
  clear S0 S1 S2 n0 n1 n2 n3 g0 g1 g2 g3 r0 r1 r2 r3 r4 r5 r6 nf H4 H5
  generalize ((((v1.setCell ⟨R + 1 + 1 + 1, 0, none⟩ (.int .i64 a)).setCell ⟨R + 1 + 1 + 1, 1, none⟩ (.int .i64 b)).setCell ⟨R + 1 + 1 + 1, 2, none⟩ (.int .i64 c)).setCell ⟨R + 1 + 1 + 1, 3, none⟩ (.string d)) = W2 at *
  have n0 : W2.cell? ⟨R + 1 + 1 + 1, 0, none⟩ = some (.int .i64 a) := H6.out.cellN 0 rfl
  have n1 : W2.cell? ⟨R + 1 + 1 + 1, 1, none⟩ = some (.int .i64 b) := H6.out.cellN 1 rfl
  have n2 : W2.cell? ⟨R + 1 + 1 + 1, 2, none⟩ = some (.int .i64 c) := H6.out.cellN 2 rfl
  have n3 : W2.cell? ⟨R + 1 + 1 + 1, 3, none⟩ = some (.string d) := H6.out.cellN 3 rfl
  have HL := Lib.hid H6.out.low
  clear H6
  go_wp2
  refine bodyPost_ret (v := .tuple #[.agg #[.int .i64 a, .int .i64 b, .int .i64 c, .string d], .bool true]) (by simp [results, Tryz.results37, go_sem, n0, n1, n2, n3]) rfl ?_
  subst hR
  exact ⟨rfl, HL.out⟩

set_option maxRecDepth 100000 in
set_option maxHeartbeats 1600000 in
theorem sm_leave (ep re wr : Int) (by_ : ByteArray) (kd : Nat) (e n : Int) (s : ByteArray) (x : Bool) (hk : kd % 8 = 6) (hkd : kd ≤ 255) (he : pEpochB e = true)  (a b c : Int) (d : ByteArray) (q : Nat) (hst : rLeave x ⟨ep, re, wr, by_⟩ e = (⟨a, b, c, d⟩, q)) (w : World) :
    Calls Tryz.prog 37 #[.agg #[.int .i64 ep, .int .i64 re, .int .i64 wr, .string by_], .agg #[.int .u8 kd, .int .i64 e, .int .i64 n, .string s, .bool x], .agg #[.int .i64 q, .int .i64 0, .string ⟨#[]⟩, .int .i64 0, .int .i64 0, .int .i64 0, .string ⟨#[]⟩]] w (SmP w ⟨a, b, c, d⟩) := by
  have Hst := Lib.hid hst; clear hst
  have hlt : kd < 256 := by omega
  obtain ⟨he0, he1⟩ := epoch_tests he
  clear he
  have HS := Lib.hid (sm_start w (#[.int .u8 kd, .int .i64 e, .int .i64 n, .string s, .bool x]) (#[.int .i64 q, .int .i64 0, .string ⟨#[]⟩, .int .i64 0, .int .i64 0, .int .i64 0, .string ⟨#[]⟩]) ⟨ep, re, wr, by_⟩)
  unfold smW0 pCells at HS
  dsimp only at HS
  have hk' : (kd : Int) % 8 = 6 := by omega
  clear hk
  go_enter Tryz.func37, Tryz.ntmps37
  go_wp2_with fail
  generalize hR : w.heap.size = R at *
  refine (rfLeave_any ep re wr by_ e x _).mono ?_
  rw [Hst.out]
  rintro r w1 ⟨rfl, hb⟩
  have H3 := Lib.hid (HS.out.later hb)
  clear hb HS
  have n0 : w1.cell? ⟨R + 1 + 1 + 1, 0, none⟩ = some (.int .i64 ep) := H3.out.cellN 0 rfl
  have n1 : w1.cell? ⟨R + 1 + 1 + 1, 1, none⟩ = some (.int .i64 re) := H3.out.cellN 1 rfl
  have n2 : w1.cell? ⟨R + 1 + 1 + 1, 2, none⟩ = some (.int .i64 wr) := H3.out.cellN 2 rfl
  have n3 : w1.cell? ⟨R + 1 + 1 + 1, 3, none⟩ = some (.string by_) := H3.out.cellN 3 rfl
  have nf : ∀ i, w1.frozen? ⟨R + 1 + 1 + 1, i, none⟩ = false := fun i => frozen_of_heap H3.out.bn i
  dsimp only [pipeV]
  go_upto_region 22 with fail
  have H4 := Lib.hid (H3.out.next ⟨a, b, c, d⟩)
  dsimp only at H4
  clear n0 n1 n2 n3 nf H3
  generalize ((((w1.setCell ⟨R + 1 + 1 + 1, 0, none⟩ (.int .i64 a)).setCell ⟨R + 1 + 1 + 1, 1, none⟩ (.int .i64 b)).setCell ⟨R + 1 + 1 + 1, 2, none⟩ (.int .i64 c)).setCell ⟨R + 1 + 1 + 1, 3, none⟩ (.string d)) = W at *
  have hcmp : samePB ⟨0, 0, 0, ⟨#[]⟩⟩ ⟨0, 0, 0, ⟨#[]⟩⟩ = true := decide_eq_true rfl
  obtain ⟨r0, r1, r2, r3, r4, r5, r6, n0, n1, n2, n3, g0, g1, g2, g3⟩ := H4.out.reads
  dsimp only at n0 n1 n2 n3 g0 g1 g2 g3
  have S0 : Hid (W.cell? ⟨R + 1 + 1, 0, none⟩ = some (.int .i64 q) ∧ W.cell? ⟨R + 1 + 1, 1, none⟩ = some (.int .i64 0) ∧ W.cell? ⟨R + 1 + 1, 2, none⟩ = some (.string ⟨#[]⟩) ∧ W.cell? ⟨R + 1 + 1, 3, none⟩ = some (.int .i64 0) ∧ W.cell? ⟨R + 1 + 1, 4, none⟩ = some (.int .i64 0) ∧ W.cell? ⟨R + 1 + 1, 5, none⟩ = some (.int .i64 0) ∧ W.cell? ⟨R + 1 + 1, 6, none⟩ = some (.string ⟨#[]⟩) ∧ W.cell? ⟨R + 1 + 1 + 1, 0, none⟩ = some (.int .i64 a) ∧ W.cell? ⟨R + 1 + 1 + 1, 1, none⟩ = some (.int .i64 b) ∧ W.cell? ⟨R + 1 + 1 + 1, 2, none⟩ = some (.int .i64 c) ∧ W.cell? ⟨R + 1 + 1 + 1, 3, none⟩ = some (.string d) ∧ W.cell? ⟨R + 1 + 1 + 1 + 1, 0, none⟩ = some (.int .i64 0) ∧ W.cell? ⟨R + 1 + 1 + 1 + 1, 1, none⟩ = some (.int .i64 0) ∧ W.cell? ⟨R + 1 + 1 + 1 + 1, 2, none⟩ = some (.int .i64 0) ∧ W.cell? ⟨R + 1 + 1 + 1 + 1, 3, none⟩ = some (.string ⟨#[]⟩)) := ⟨r0, r1, r2, r3, r4, r5, r6, n0, n1, n2, n3, g0, g1, g2, g3⟩
  go_region_held3 (fun w' => w'.cell? ⟨R + 1 + 1, 0, none⟩ = some (.int .i64 q) ∧ w'.cell? ⟨R + 1 + 1, 1, none⟩ = some (.int .i64 0) ∧ w'.cell? ⟨R + 1 + 1, 2, none⟩ = some (.string ⟨#[]⟩) ∧ w'.cell? ⟨R + 1 + 1, 3, none⟩ = some (.int .i64 0) ∧ w'.cell? ⟨R + 1 + 1, 4, none⟩ = some (.int .i64 0) ∧ w'.cell? ⟨R + 1 + 1, 5, none⟩ = some (.int .i64 0) ∧ w'.cell? ⟨R + 1 + 1, 6, none⟩ = some (.string ⟨#[]⟩) ∧ w'.cell? ⟨R + 1 + 1 + 1, 0, none⟩ = some (.int .i64 a) ∧ w'.cell? ⟨R + 1 + 1 + 1, 1, none⟩ = some (.int .i64 b) ∧ w'.cell? ⟨R + 1 + 1 + 1, 2, none⟩ = some (.int .i64 c) ∧ w'.cell? ⟨R + 1 + 1 + 1, 3, none⟩ = some (.string d) ∧ w'.cell? ⟨R + 1 + 1 + 1 + 1, 0, none⟩ = some (.int .i64 0) ∧ w'.cell? ⟨R + 1 + 1 + 1 + 1, 1, none⟩ = some (.int .i64 0) ∧ w'.cell? ⟨R + 1 + 1 + 1 + 1, 2, none⟩ = some (.int .i64 0) ∧ w'.cell? ⟨R + 1 + 1 + 1 + 1, 3, none⟩ = some (.string ⟨#[]⟩)) (first | with_reducible exact S0.out | with_reducible exact S1.out | with_reducible exact S2.out | go_keep)
    (first
      | (go_at_call 100; refine (smTo_any 0 0 0 ⟨#[]⟩ _).mono ?_; rintro r v1 ⟨rfl, hb⟩; have H5 := Lib.hid (H4.out.drew.later hb); have S1 := Lib.hid H5.out.reads; unfold SmC at S1; dsimp only at S1; have H6 := Lib.hid (H5.out.next ⟨a, b, c, d⟩); dsimp only at H6; have S2 := Lib.hid H6.out.reads; unfold SmC at S2; dsimp only at S2; have nf : ∀ i, v1.frozen? ⟨R + 1 + 1 + 1, i, none⟩ = false := fun i => frozen_of_heap H5.out.bn i; clear hb)
      | fail)
  clear S0 S1 S2 n0 n1 n2 n3 g0 g1 g2 g3 r0 r1 r2 r3 r4 r5 r6 nf H4 H5
  generalize ((((v1.setCell ⟨R + 1 + 1 + 1, 0, none⟩ (.int .i64 a)).setCell ⟨R + 1 + 1 + 1, 1, none⟩ (.int .i64 b)).setCell ⟨R + 1 + 1 + 1, 2, none⟩ (.int .i64 c)).setCell ⟨R + 1 + 1 + 1, 3, none⟩ (.string d)) = W2 at *
  have n0 : W2.cell? ⟨R + 1 + 1 + 1, 0, none⟩ = some (.int .i64 a) := H6.out.cellN 0 rfl
  have n1 : W2.cell? ⟨R + 1 + 1 + 1, 1, none⟩ = some (.int .i64 b) := H6.out.cellN 1 rfl
  have n2 : W2.cell? ⟨R + 1 + 1 + 1, 2, none⟩ = some (.int .i64 c) := H6.out.cellN 2 rfl
  have n3 : W2.cell? ⟨R + 1 + 1 + 1, 3, none⟩ = some (.string d) := H6.out.cellN 3 rfl
  have HL := Lib.hid H6.out.low
  clear H6
  go_wp2
  refine bodyPost_ret (v := .tuple #[.agg #[.int .i64 a, .int .i64 b, .int .i64 c, .string d], .bool true]) (by simp [results, Tryz.results37, go_sem, n0, n1, n2, n3]) rfl ?_
  subst hR
  exact ⟨rfl, HL.out⟩

end Go.Proofs.YtemmeopaihmlcaaGreatDoor
