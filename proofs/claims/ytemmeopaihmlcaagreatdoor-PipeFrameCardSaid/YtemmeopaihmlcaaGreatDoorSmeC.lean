/- Law 32: same, for a result that is the reference's: Read, Get. Law 32: same, for a result that is the reference's: Write. -/
import Derived.Test.YtemmeopaihmlcaaGreatDoorSmeA
namespace Go.Proofs.YtemmeopaihmlcaaGreatDoor
open Go.RowKit
attribute [local go_sem ↓] Go.wp_at_zero Go.wp_at_succ
attribute [local go_sem ↓] run_eql_pipe

set_option maxRecDepth 100000 in
set_option maxHeartbeats 1600000 in
theorem sm_read (ep re wr : Int) (by_ : ByteArray) (kd : Nat) (e n : Int) (s : ByteArray) (x : Bool) (hk : kd % 8 = 1 ∨ kd % 8 = 2) (hkd : kd ≤ 255) (he : pEpochB e = true) (y : ByteArray) (a b c : Int) (d : ByteArray) (q : Nat) (hst : rRead n ⟨ep, re, wr, by_⟩ e = (⟨a, b, c, d⟩, y, q)) (w : World) :
    Calls Tryz.prog 37 #[.agg #[.int .i64 ep, .int .i64 re, .int .i64 wr, .string by_], .agg #[.int .u8 kd, .int .i64 e, .int .i64 n, .string s, .bool x], .agg #[.int .i64 q, .int .i64 0, .string y, .int .i64 0, .int .i64 0, .int .i64 0, .string ⟨#[]⟩]] w (SmP w ⟨a, b, c, d⟩) := by
  have Hst := Lib.hid hst; clear hst
  have hlt : kd < 256 := by omega
  obtain ⟨he0, he1⟩ := epoch_tests he
  clear he
  have HS := Lib.hid (sm_start w (#[.int .u8 kd, .int .i64 e, .int .i64 n, .string s, .bool x]) (#[.int .i64 q, .int .i64 0, .string y, .int .i64 0, .int .i64 0, .int .i64 0, .string ⟨#[]⟩]) ⟨ep, re, wr, by_⟩)
  unfold smW0 pCells at HS
  dsimp only at HS
  have hways : (kd : Int) % 8 = 1 ∨ (kd : Int) % 8 = 2 := by omega
  clear hk
  rcases hways with hk' | hk'
  all_goals
    go_enter Tryz.func37, Tryz.ntmps37
    go_wp2_with fail
    generalize hR : w.heap.size = R at *
    refine (rfRead_any ep re wr by_ e n _).mono ?_
    rw [Hst.out]
    rintro r w1 ⟨rfl, hb⟩
    have H3 := Lib.hid (HS.out.later hb)
    clear hb HS
    have n0 : w1.cell? ⟨R + 1 + 1 + 1, 0, none⟩ = some (.int .i64 ep) := H3.out.cellN 0 rfl
    have n1 : w1.cell? ⟨R + 1 + 1 + 1, 1, none⟩ = some (.int .i64 re) := H3.out.cellN 1 rfl
    have n2 : w1.cell? ⟨R + 1 + 1 + 1, 2, none⟩ = some (.int .i64 wr) := H3.out.cellN 2 rfl
    have n3 : w1.cell? ⟨R + 1 + 1 + 1, 3, none⟩ = some (.string by_) := H3.out.cellN 3 rfl
    have nf : ∀ i, w1.frozen? ⟨R + 1 + 1 + 1, i, none⟩ = false := fun i => frozen_of_heap H3.out.bn i
    dsimp only [pipeV]
    go_upto_region 22 with fail
    have H4 := Lib.hid (H3.out.next ⟨a, b, c, d⟩)
    dsimp only at H4
    clear n0 n1 n2 n3 nf H3
    generalize ((((w1.setCell ⟨R + 1 + 1 + 1, 0, none⟩ (.int .i64 a)).setCell ⟨R + 1 + 1 + 1, 1, none⟩ (.int .i64 b)).setCell ⟨R + 1 + 1 + 1, 2, none⟩ (.int .i64 c)).setCell ⟨R + 1 + 1 + 1, 3, none⟩ (.string d)) = W at *
    have hcmp : samePB ⟨0, 0, 0, ⟨#[]⟩⟩ ⟨0, 0, 0, ⟨#[]⟩⟩ = true := decide_eq_true rfl
    obtain ⟨r0, r1, r2, r3, r4, r5, r6, n0, n1, n2, n3, g0, g1, g2, g3⟩ := H4.out.reads
    dsimp only at n0 n1 n2 n3 g0 g1 g2 g3
    have S0 : Hid (W.cell? ⟨R + 1 + 1, 0, none⟩ = some (.int .i64 q) ∧ W.cell? ⟨R + 1 + 1, 1, none⟩ = some (.int .i64 0) ∧ W.cell? ⟨R + 1 + 1, 2, none⟩ = some (.string y) ∧ W.cell? ⟨R + 1 + 1, 3, none⟩ = some (.int .i64 0) ∧ W.cell? ⟨R + 1 + 1, 4, none⟩ = some (.int .i64 0) ∧ W.cell? ⟨R + 1 + 1, 5, none⟩ = some (.int .i64 0) ∧ W.cell? ⟨R + 1 + 1, 6, none⟩ = some (.string ⟨#[]⟩) ∧ W.cell? ⟨R + 1 + 1 + 1, 0, none⟩ = some (.int .i64 a) ∧ W.cell? ⟨R + 1 + 1 + 1, 1, none⟩ = some (.int .i64 b) ∧ W.cell? ⟨R + 1 + 1 + 1, 2, none⟩ = some (.int .i64 c) ∧ W.cell? ⟨R + 1 + 1 + 1, 3, none⟩ = some (.string d) ∧ W.cell? ⟨R + 1 + 1 + 1 + 1, 0, none⟩ = some (.int .i64 0) ∧ W.cell? ⟨R + 1 + 1 + 1 + 1, 1, none⟩ = some (.int .i64 0) ∧ W.cell? ⟨R + 1 + 1 + 1 + 1, 2, none⟩ = some (.int .i64 0) ∧ W.cell? ⟨R + 1 + 1 + 1 + 1, 3, none⟩ = some (.string ⟨#[]⟩)) := ⟨r0, r1, r2, r3, r4, r5, r6, n0, n1, n2, n3, g0, g1, g2, g3⟩
    go_region_held3 (fun w' => w'.cell? ⟨R + 1 + 1, 0, none⟩ = some (.int .i64 q) ∧ w'.cell? ⟨R + 1 + 1, 1, none⟩ = some (.int .i64 0) ∧ w'.cell? ⟨R + 1 + 1, 2, none⟩ = some (.string y) ∧ w'.cell? ⟨R + 1 + 1, 3, none⟩ = some (.int .i64 0) ∧ w'.cell? ⟨R + 1 + 1, 4, none⟩ = some (.int .i64 0) ∧ w'.cell? ⟨R + 1 + 1, 5, none⟩ = some (.int .i64 0) ∧ w'.cell? ⟨R + 1 + 1, 6, none⟩ = some (.string ⟨#[]⟩) ∧ w'.cell? ⟨R + 1 + 1 + 1, 0, none⟩ = some (.int .i64 a) ∧ w'.cell? ⟨R + 1 + 1 + 1, 1, none⟩ = some (.int .i64 b) ∧ w'.cell? ⟨R + 1 + 1 + 1, 2, none⟩ = some (.int .i64 c) ∧ w'.cell? ⟨R + 1 + 1 + 1, 3, none⟩ = some (.string d) ∧ w'.cell? ⟨R + 1 + 1 + 1 + 1, 0, none⟩ = some (.int .i64 0) ∧ w'.cell? ⟨R + 1 + 1 + 1 + 1, 1, none⟩ = some (.int .i64 0) ∧ w'.cell? ⟨R + 1 + 1 + 1 + 1, 2, none⟩ = some (.int .i64 0) ∧ w'.cell? ⟨R + 1 + 1 + 1 + 1, 3, none⟩ = some (.string ⟨#[]⟩)) (first | with_reducible exact S0.out | with_reducible exact S1.out | with_reducible exact S2.out | go_keep)
      (first
        | (go_at_call 100; refine (smTo_any 0 0 0 ⟨#[]⟩ _).mono ?_; rintro r v1 ⟨rfl, hb⟩; have H5 := Lib.hid (H4.out.drew.later hb); have S1 := Lib.hid H5.out.reads; unfold SmC at S1; dsimp only at S1; have H6 := Lib.hid (H5.out.next ⟨a, b, c, d⟩); dsimp only at H6; have S2 := Lib.hid H6.out.reads; unfold SmC at S2; dsimp only at S2; have nf : ∀ i, v1.frozen? ⟨R + 1 + 1 + 1, i, none⟩ = false := fun i => frozen_of_heap H5.out.bn i; clear hb)
        | fail)
    clear S0 S1 S2 n0 n1 n2 n3 g0 g1 g2 g3 r0 r1 r2 r3 r4 r5 r6 nf H4 H5
    generalize ((((v1.setCell ⟨R + 1 + 1 + 1, 0, none⟩ (.int .i64 a)).setCell ⟨R + 1 + 1 + 1, 1, none⟩ (.int .i64 b)).setCell ⟨R + 1 + 1 + 1, 2, none⟩ (.int .i64 c)).setCell ⟨R + 1 + 1 + 1, 3, none⟩ (.string d)) = W2 at *
    have n0 : W2.cell? ⟨R + 1 + 1 + 1, 0, none⟩ = some (.int .i64 a) := H6.out.cellN 0 rfl
    have n1 : W2.cell? ⟨R + 1 + 1 + 1, 1, none⟩ = some (.int .i64 b) := H6.out.cellN 1 rfl
    have n2 : W2.cell? ⟨R + 1 + 1 + 1, 2, none⟩ = some (.int .i64 c) := H6.out.cellN 2 rfl
    have n3 : W2.cell? ⟨R + 1 + 1 + 1, 3, none⟩ = some (.string d) := H6.out.cellN 3 rfl
    have HL := Lib.hid H6.out.low
    clear H6
    go_wp2
    refine bodyPost_ret (v := .tuple #[.agg #[.int .i64 a, .int .i64 b, .int .i64 c, .string d], .bool true]) (by simp [results, Tryz.results37, go_sem, n0, n1, n2, n3]) rfl ?_
    subst hR
    exact ⟨rfl, HL.out⟩

set_option maxRecDepth 100000 in
set_option maxHeartbeats 1600000 in
theorem sm_get1 (ep re wr : Int) (by_ : ByteArray) (kd : Nat) (e n : Int) (s : ByteArray) (x : Bool) (hk : kd % 8 = 7) (hkd : kd ≤ 255) (he : pEpochB e = true)  (hst : isPB ⟨ep, re, wr, by_⟩ e = true) (w : World) :
    Calls Tryz.prog 37 #[.agg #[.int .i64 ep, .int .i64 re, .int .i64 wr, .string by_], .agg #[.int .u8 kd, .int .i64 e, .int .i64 n, .string s, .bool x], .agg #[.int .i64 0, .int .i64 0, .string ⟨#[]⟩, .int .i64 ep, .int .i64 re, .int .i64 wr, .string by_]] w (SmP w ⟨ep, re, wr, by_⟩) := by
  have Hst := Lib.hid hst; clear hst
  have hlt : kd < 256 := by omega
  obtain ⟨he0, he1⟩ := epoch_tests he
  clear he
  have HS := Lib.hid (sm_start w (#[.int .u8 kd, .int .i64 e, .int .i64 n, .string s, .bool x]) (#[.int .i64 0, .int .i64 0, .string ⟨#[]⟩, .int .i64 ep, .int .i64 re, .int .i64 wr, .string by_]) ⟨ep, re, wr, by_⟩)
  unfold smW0 pCells at HS
  dsimp only at HS
  have hm0 : ((kd : Int) % 8 == 0) = false := beq_eq_false_iff_ne.2 (by omega)
  have hm1 : ((kd : Int) % 8 == 1) = false := beq_eq_false_iff_ne.2 (by omega)
  have hm2 : ((kd : Int) % 8 == 2) = false := beq_eq_false_iff_ne.2 (by omega)
  have hm3 : ((kd : Int) % 8 == 3) = false := beq_eq_false_iff_ne.2 (by omega)
  have hm4 : ((kd : Int) % 8 == 4) = false := beq_eq_false_iff_ne.2 (by omega)
  have hm5 : ((kd : Int) % 8 == 5) = false := beq_eq_false_iff_ne.2 (by omega)
  have hm6 : ((kd : Int) % 8 == 6) = false := beq_eq_false_iff_ne.2 (by omega)
  clear hk
  go_enter Tryz.func37, Tryz.ntmps37
  go_wp2_with fail
  generalize hR : w.heap.size = R at *
  refine (rfIs_is ep re wr by_ e true Hst.out _).mono ?_
  rintro r w1 ⟨rfl, hb⟩
  have H3 := Lib.hid (HS.out.later hb)
  clear hb HS
  have n0 : w1.cell? ⟨R + 1 + 1 + 1 + 1, 0, none⟩ = some (.int .i64 0) := H3.out.cellG 0 rfl
  have n1 : w1.cell? ⟨R + 1 + 1 + 1 + 1, 1, none⟩ = some (.int .i64 0) := H3.out.cellG 1 rfl
  have n2 : w1.cell? ⟨R + 1 + 1 + 1 + 1, 2, none⟩ = some (.int .i64 0) := H3.out.cellG 2 rfl
  have n3 : w1.cell? ⟨R + 1 + 1 + 1 + 1, 3, none⟩ = some (.string ⟨#[]⟩) := H3.out.cellG 3 rfl
  have p0 : w1.cell? ⟨R, 0, none⟩ = some (.int .i64 ep) := H3.out.cellP 0 rfl
  have p1 : w1.cell? ⟨R, 1, none⟩ = some (.int .i64 re) := H3.out.cellP 1 rfl
  have p2 : w1.cell? ⟨R, 2, none⟩ = some (.int .i64 wr) := H3.out.cellP 2 rfl
  have p3 : w1.cell? ⟨R, 3, none⟩ = some (.string by_) := H3.out.cellP 3 rfl
  have nf : ∀ i, w1.frozen? ⟨R + 1 + 1 + 1 + 1, i, none⟩ = false := fun i => frozen_of_heap H3.out.bg i
  go_upto_region 22 with fail
  have H4 := Lib.hid (H3.out.got ⟨ep, re, wr, by_⟩)
  dsimp only at H4
  clear n0 n1 n2 n3 nf p0 p1 p2 p3 H3
  generalize ((((w1.setCell ⟨R + 1 + 1 + 1 + 1, 0, none⟩ (.int .i64 ep)).setCell ⟨R + 1 + 1 + 1 + 1, 1, none⟩ (.int .i64 re)).setCell ⟨R + 1 + 1 + 1 + 1, 2, none⟩ (.int .i64 wr)).setCell ⟨R + 1 + 1 + 1 + 1, 3, none⟩ (.string by_)) = W at *
  have hcmp : samePB ⟨ep, re, wr, by_⟩ ⟨ep, re, wr, by_⟩ = true := decide_eq_true rfl
  obtain ⟨r0, r1, r2, r3, r4, r5, r6, n0, n1, n2, n3, g0, g1, g2, g3⟩ := H4.out.reads
  dsimp only at n0 n1 n2 n3 g0 g1 g2 g3
  have S0 : Hid (W.cell? ⟨R + 1 + 1, 0, none⟩ = some (.int .i64 0) ∧ W.cell? ⟨R + 1 + 1, 1, none⟩ = some (.int .i64 0) ∧ W.cell? ⟨R + 1 + 1, 2, none⟩ = some (.string ⟨#[]⟩) ∧ W.cell? ⟨R + 1 + 1, 3, none⟩ = some (.int .i64 ep) ∧ W.cell? ⟨R + 1 + 1, 4, none⟩ = some (.int .i64 re) ∧ W.cell? ⟨R + 1 + 1, 5, none⟩ = some (.int .i64 wr) ∧ W.cell? ⟨R + 1 + 1, 6, none⟩ = some (.string by_) ∧ W.cell? ⟨R + 1 + 1 + 1, 0, none⟩ = some (.int .i64 ep) ∧ W.cell? ⟨R + 1 + 1 + 1, 1, none⟩ = some (.int .i64 re) ∧ W.cell? ⟨R + 1 + 1 + 1, 2, none⟩ = some (.int .i64 wr) ∧ W.cell? ⟨R + 1 + 1 + 1, 3, none⟩ = some (.string by_) ∧ W.cell? ⟨R + 1 + 1 + 1 + 1, 0, none⟩ = some (.int .i64 ep) ∧ W.cell? ⟨R + 1 + 1 + 1 + 1, 1, none⟩ = some (.int .i64 re) ∧ W.cell? ⟨R + 1 + 1 + 1 + 1, 2, none⟩ = some (.int .i64 wr) ∧ W.cell? ⟨R + 1 + 1 + 1 + 1, 3, none⟩ = some (.string by_)) := ⟨r0, r1, r2, r3, r4, r5, r6, n0, n1, n2, n3, g0, g1, g2, g3⟩
  go_region_held3 (fun w' => w'.cell? ⟨R + 1 + 1, 0, none⟩ = some (.int .i64 0) ∧ w'.cell? ⟨R + 1 + 1, 1, none⟩ = some (.int .i64 0) ∧ w'.cell? ⟨R + 1 + 1, 2, none⟩ = some (.string ⟨#[]⟩) ∧ w'.cell? ⟨R + 1 + 1, 3, none⟩ = some (.int .i64 ep) ∧ w'.cell? ⟨R + 1 + 1, 4, none⟩ = some (.int .i64 re) ∧ w'.cell? ⟨R + 1 + 1, 5, none⟩ = some (.int .i64 wr) ∧ w'.cell? ⟨R + 1 + 1, 6, none⟩ = some (.string by_) ∧ w'.cell? ⟨R + 1 + 1 + 1, 0, none⟩ = some (.int .i64 ep) ∧ w'.cell? ⟨R + 1 + 1 + 1, 1, none⟩ = some (.int .i64 re) ∧ w'.cell? ⟨R + 1 + 1 + 1, 2, none⟩ = some (.int .i64 wr) ∧ w'.cell? ⟨R + 1 + 1 + 1, 3, none⟩ = some (.string by_) ∧ w'.cell? ⟨R + 1 + 1 + 1 + 1, 0, none⟩ = some (.int .i64 ep) ∧ w'.cell? ⟨R + 1 + 1 + 1 + 1, 1, none⟩ = some (.int .i64 re) ∧ w'.cell? ⟨R + 1 + 1 + 1 + 1, 2, none⟩ = some (.int .i64 wr) ∧ w'.cell? ⟨R + 1 + 1 + 1 + 1, 3, none⟩ = some (.string by_)) (first | with_reducible exact S0.out | with_reducible exact S1.out | with_reducible exact S2.out | go_keep)
    (first
      | (go_at_call 100; refine (smTo_any ep re wr by_ _).mono ?_; rintro r v1 ⟨rfl, hb⟩; have H5 := Lib.hid (H4.out.drew.later hb); have S1 := Lib.hid H5.out.reads; unfold SmC at S1; dsimp only at S1; have H6 := Lib.hid (H5.out.next ⟨ep, re, wr, by_⟩); dsimp only at H6; have S2 := Lib.hid H6.out.reads; unfold SmC at S2; dsimp only at S2; have nf : ∀ i, v1.frozen? ⟨R + 1 + 1 + 1, i, none⟩ = false := fun i => frozen_of_heap H5.out.bn i; clear hb)
      | fail)
  clear S0 S1 S2 n0 n1 n2 n3 g0 g1 g2 g3 r0 r1 r2 r3 r4 r5 r6 nf H4 H5
  generalize ((((v1.setCell ⟨R + 1 + 1 + 1, 0, none⟩ (.int .i64 ep)).setCell ⟨R + 1 + 1 + 1, 1, none⟩ (.int .i64 re)).setCell ⟨R + 1 + 1 + 1, 2, none⟩ (.int .i64 wr)).setCell ⟨R + 1 + 1 + 1, 3, none⟩ (.string by_)) = W2 at *
  have n0 : W2.cell? ⟨R + 1 + 1 + 1, 0, none⟩ = some (.int .i64 ep) := H6.out.cellN 0 rfl
  have n1 : W2.cell? ⟨R + 1 + 1 + 1, 1, none⟩ = some (.int .i64 re) := H6.out.cellN 1 rfl
  have n2 : W2.cell? ⟨R + 1 + 1 + 1, 2, none⟩ = some (.int .i64 wr) := H6.out.cellN 2 rfl
  have n3 : W2.cell? ⟨R + 1 + 1 + 1, 3, none⟩ = some (.string by_) := H6.out.cellN 3 rfl
  have HL := Lib.hid H6.out.low
  clear H6
  go_wp2
  refine bodyPost_ret (v := .tuple #[.agg #[.int .i64 ep, .int .i64 re, .int .i64 wr, .string by_], .bool true]) (by simp [results, Tryz.results37, go_sem, n0, n1, n2, n3]) rfl ?_
  subst hR
  exact ⟨rfl, HL.out⟩

set_option maxRecDepth 100000 in
set_option maxHeartbeats 1600000 in
theorem sm_get0 (ep re wr : Int) (by_ : ByteArray) (kd : Nat) (e n : Int) (s : ByteArray) (x : Bool) (hk : kd % 8 = 7) (hkd : kd ≤ 255) (he : pEpochB e = true)  (hst : isPB ⟨ep, re, wr, by_⟩ e = false) (w : World) :
    Calls Tryz.prog 37 #[.agg #[.int .i64 ep, .int .i64 re, .int .i64 wr, .string by_], .agg #[.int .u8 kd, .int .i64 e, .int .i64 n, .string s, .bool x], .agg #[.int .i64 8, .int .i64 0, .string ⟨#[]⟩, .int .i64 0, .int .i64 0, .int .i64 0, .string ⟨#[]⟩]] w (SmP w ⟨ep, re, wr, by_⟩) := by
  have Hst := Lib.hid hst; clear hst
  have hlt : kd < 256 := by omega
  obtain ⟨he0, he1⟩ := epoch_tests he
  clear he
  have HS := Lib.hid (sm_start w (#[.int .u8 kd, .int .i64 e, .int .i64 n, .string s, .bool x]) (#[.int .i64 8, .int .i64 0, .string ⟨#[]⟩, .int .i64 0, .int .i64 0, .int .i64 0, .string ⟨#[]⟩]) ⟨ep, re, wr, by_⟩)
  unfold smW0 pCells at HS
  dsimp only at HS
  have hm0 : ((kd : Int) % 8 == 0) = false := beq_eq_false_iff_ne.2 (by omega)
  have hm1 : ((kd : Int) % 8 == 1) = false := beq_eq_false_iff_ne.2 (by omega)
  have hm2 : ((kd : Int) % 8 == 2) = false := beq_eq_false_iff_ne.2 (by omega)
  have hm3 : ((kd : Int) % 8 == 3) = false := beq_eq_false_iff_ne.2 (by omega)
  have hm4 : ((kd : Int) % 8 == 4) = false := beq_eq_false_iff_ne.2 (by omega)
  have hm5 : ((kd : Int) % 8 == 5) = false := beq_eq_false_iff_ne.2 (by omega)
  have hm6 : ((kd : Int) % 8 == 6) = false := beq_eq_false_iff_ne.2 (by omega)
  clear hk
  go_enter Tryz.func37, Tryz.ntmps37
  go_wp2_with fail
  generalize hR : w.heap.size = R at *
  refine (rfIs_is ep re wr by_ e false Hst.out _).mono ?_
  rintro r w1 ⟨rfl, hb⟩
  have H3 := Lib.hid (HS.out.later hb)
  clear hb HS
  go_upto_region 22 with fail
  have H4 := H3
  clear H3
  generalize w1 = W at *
  have hcmp : samePB ⟨0, 0, 0, ⟨#[]⟩⟩ ⟨0, 0, 0, ⟨#[]⟩⟩ = true := decide_eq_true rfl
  obtain ⟨r0, r1, r2, r3, r4, r5, r6, n0, n1, n2, n3, g0, g1, g2, g3⟩ := H4.out.reads
  dsimp only at n0 n1 n2 n3 g0 g1 g2 g3
  have S0 : Hid (W.cell? ⟨R + 1 + 1, 0, none⟩ = some (.int .i64 8) ∧ W.cell? ⟨R + 1 + 1, 1, none⟩ = some (.int .i64 0) ∧ W.cell? ⟨R + 1 + 1, 2, none⟩ = some (.string ⟨#[]⟩) ∧ W.cell? ⟨R + 1 + 1, 3, none⟩ = some (.int .i64 0) ∧ W.cell? ⟨R + 1 + 1, 4, none⟩ = some (.int .i64 0) ∧ W.cell? ⟨R + 1 + 1, 5, none⟩ = some (.int .i64 0) ∧ W.cell? ⟨R + 1 + 1, 6, none⟩ = some (.string ⟨#[]⟩) ∧ W.cell? ⟨R + 1 + 1 + 1, 0, none⟩ = some (.int .i64 ep) ∧ W.cell? ⟨R + 1 + 1 + 1, 1, none⟩ = some (.int .i64 re) ∧ W.cell? ⟨R + 1 + 1 + 1, 2, none⟩ = some (.int .i64 wr) ∧ W.cell? ⟨R + 1 + 1 + 1, 3, none⟩ = some (.string by_) ∧ W.cell? ⟨R + 1 + 1 + 1 + 1, 0, none⟩ = some (.int .i64 0) ∧ W.cell? ⟨R + 1 + 1 + 1 + 1, 1, none⟩ = some (.int .i64 0) ∧ W.cell? ⟨R + 1 + 1 + 1 + 1, 2, none⟩ = some (.int .i64 0) ∧ W.cell? ⟨R + 1 + 1 + 1 + 1, 3, none⟩ = some (.string ⟨#[]⟩)) := ⟨r0, r1, r2, r3, r4, r5, r6, n0, n1, n2, n3, g0, g1, g2, g3⟩
  go_region_held3 (fun w' => w'.cell? ⟨R + 1 + 1, 0, none⟩ = some (.int .i64 8) ∧ w'.cell? ⟨R + 1 + 1, 1, none⟩ = some (.int .i64 0) ∧ w'.cell? ⟨R + 1 + 1, 2, none⟩ = some (.string ⟨#[]⟩) ∧ w'.cell? ⟨R + 1 + 1, 3, none⟩ = some (.int .i64 0) ∧ w'.cell? ⟨R + 1 + 1, 4, none⟩ = some (.int .i64 0) ∧ w'.cell? ⟨R + 1 + 1, 5, none⟩ = some (.int .i64 0) ∧ w'.cell? ⟨R + 1 + 1, 6, none⟩ = some (.string ⟨#[]⟩) ∧ w'.cell? ⟨R + 1 + 1 + 1, 0, none⟩ = some (.int .i64 ep) ∧ w'.cell? ⟨R + 1 + 1 + 1, 1, none⟩ = some (.int .i64 re) ∧ w'.cell? ⟨R + 1 + 1 + 1, 2, none⟩ = some (.int .i64 wr) ∧ w'.cell? ⟨R + 1 + 1 + 1, 3, none⟩ = some (.string by_) ∧ w'.cell? ⟨R + 1 + 1 + 1 + 1, 0, none⟩ = some (.int .i64 0) ∧ w'.cell? ⟨R + 1 + 1 + 1 + 1, 1, none⟩ = some (.int .i64 0) ∧ w'.cell? ⟨R + 1 + 1 + 1 + 1, 2, none⟩ = some (.int .i64 0) ∧ w'.cell? ⟨R + 1 + 1 + 1 + 1, 3, none⟩ = some (.string ⟨#[]⟩)) (first | with_reducible exact S0.out | with_reducible exact S1.out | with_reducible exact S2.out | go_keep)
    (first
      | (go_at_call 100; refine (smTo_any 0 0 0 ⟨#[]⟩ _).mono ?_; rintro r v1 ⟨rfl, hb⟩; have H5 := Lib.hid (H4.out.drew.later hb); have S1 := Lib.hid H5.out.reads; unfold SmC at S1; dsimp only at S1; have H6 := Lib.hid (H5.out.next ⟨ep, re, wr, by_⟩); dsimp only at H6; have S2 := Lib.hid H6.out.reads; unfold SmC at S2; dsimp only at S2; have nf : ∀ i, v1.frozen? ⟨R + 1 + 1 + 1, i, none⟩ = false := fun i => frozen_of_heap H5.out.bn i; clear hb)
      | fail)
  clear S0 S1 S2 n0 n1 n2 n3 g0 g1 g2 g3 r0 r1 r2 r3 r4 r5 r6 nf H4 H5
  generalize ((((v1.setCell ⟨R + 1 + 1 + 1, 0, none⟩ (.int .i64 ep)).setCell ⟨R + 1 + 1 + 1, 1, none⟩ (.int .i64 re)).setCell ⟨R + 1 + 1 + 1, 2, none⟩ (.int .i64 wr)).setCell ⟨R + 1 + 1 + 1, 3, none⟩ (.string by_)) = W2 at *
  have n0 : W2.cell? ⟨R + 1 + 1 + 1, 0, none⟩ = some (.int .i64 ep) := H6.out.cellN 0 rfl
  have n1 : W2.cell? ⟨R + 1 + 1 + 1, 1, none⟩ = some (.int .i64 re) := H6.out.cellN 1 rfl
  have n2 : W2.cell? ⟨R + 1 + 1 + 1, 2, none⟩ = some (.int .i64 wr) := H6.out.cellN 2 rfl
  have n3 : W2.cell? ⟨R + 1 + 1 + 1, 3, none⟩ = some (.string by_) := H6.out.cellN 3 rfl
  have HL := Lib.hid H6.out.low
  clear H6
  go_wp2
  refine bodyPost_ret (v := .tuple #[.agg #[.int .i64 ep, .int .i64 re, .int .i64 wr, .string by_], .bool true]) (by simp [results, Tryz.results37, go_sem, n0, n1, n2, n3]) rfl ?_
  subst hR
  exact ⟨rfl, HL.out⟩

end Go.Proofs.YtemmeopaihmlcaaGreatDoor

namespace Go.Proofs.YtemmeopaihmlcaaGreatDoor
open Go.RowKit
attribute [local go_sem ↓] Go.wp_at_zero Go.wp_at_succ
attribute [local go_sem ↓] run_eql_pipe

set_option maxRecDepth 100000 in
set_option maxHeartbeats 1600000 in
theorem sm_write (ep re wr : Int) (by_ : ByteArray) (kd : Nat) (e n : Int) (s : ByteArray) (x : Bool) (hk : kd % 8 = 3 ∨ kd % 8 = 4) (hkd : kd ≤ 255) (he : pEpochB e = true) (hs : s.size ≤ 9223372036854775807) (a b c : Int) (d : ByteArray) (q m : Nat) (hz : ¬ 600 < s.size) (hst : rWrite s ⟨ep, re, wr, by_⟩ e = (⟨a, b, c, d⟩, m, q)) (w : World) :
    Calls Tryz.prog 37 #[.agg #[.int .i64 ep, .int .i64 re, .int .i64 wr, .string by_], .agg #[.int .u8 kd, .int .i64 e, .int .i64 n, .string s, .bool x], .agg #[.int .i64 q, .int .i64 m, .string ⟨#[]⟩, .int .i64 0, .int .i64 0, .int .i64 0, .string ⟨#[]⟩]] w (SmP w ⟨a, b, c, d⟩) := by
  have Hst := Lib.hid hst; clear hst
  have hz1 : ¬ (600 : Int) < (s.size : Int) := by omega
  have hmin : (if (600 : Int) < (s.size : Int) then (600 : Int) else (s.size : Int)) = (s.size : Int) := if_neg hz1
  have hz0 : (0 : Int) ≤ (s.size : Int) := by omega
  have hz2 : (s.size : Int) ≤ (s.size : Int) := by omega
  have hlt : kd < 256 := by omega
  obtain ⟨he0, he1⟩ := epoch_tests he
  clear he
  have HS := Lib.hid (sm_start w (#[.int .u8 kd, .int .i64 e, .int .i64 n, .string s, .bool x]) (#[.int .i64 q, .int .i64 m, .string ⟨#[]⟩, .int .i64 0, .int .i64 0, .int .i64 0, .string ⟨#[]⟩]) ⟨ep, re, wr, by_⟩)
  unfold smW0 pCells at HS
  dsimp only at HS
  have hways : (kd : Int) % 8 = 3 ∨ (kd : Int) % 8 = 4 := by omega
  clear hk
  rcases hways with hk' | hk'
  all_goals
    go_enter Tryz.func37, Tryz.ntmps37
    go_upto_region 17 with fail
    generalize hR : w.heap.size = R at *
    generalize ((((w.alloc (.cells #[.int .i64 ep, .int .i64 re, .int .i64 wr, .string by_] 63)).alloc (.cells #[.int .u8 kd, .int .i64 e, .int .i64 n, .string s, .bool x] 81)).alloc (.cells #[.int .i64 q, .int .i64 m, .string ⟨#[]⟩, .int .i64 0, .int .i64 0, .int .i64 0, .string ⟨#[]⟩] 83)).alloc (.cells #[.int .i64 ep, .int .i64 re, .int .i64 wr, .string by_] 63)).alloc (.cells #[.int .i64 0, .int .i64 0, .int .i64 0, .string ⟨#[]⟩] 63) = W0 at *
    have p0 : W0.cell? ⟨R, 0, none⟩ = some (.int .i64 ep) := HS.out.cellP 0 rfl
    have p1 : W0.cell? ⟨R, 1, none⟩ = some (.int .i64 re) := HS.out.cellP 1 rfl
    have p2 : W0.cell? ⟨R, 2, none⟩ = some (.int .i64 wr) := HS.out.cellP 2 rfl
    have p3 : W0.cell? ⟨R, 3, none⟩ = some (.string by_) := HS.out.cellP 3 rfl
    have o1 : W0.cell? ⟨R + 1, 1, none⟩ = some (.int .i64 e) := HS.out.cellO 1 rfl
    have o3 : W0.cell? ⟨R + 1, 3, none⟩ = some (.string s) := HS.out.cellO 3 rfl
    have P0 : Hid (W0.cell? ⟨R, 0, none⟩ = some (.int .i64 ep) ∧ W0.cell? ⟨R, 1, none⟩ = some (.int .i64 re) ∧ W0.cell? ⟨R, 2, none⟩ = some (.int .i64 wr) ∧ W0.cell? ⟨R, 3, none⟩ = some (.string by_) ∧ W0.cell? ⟨R + 1, 1, none⟩ = some (.int .i64 e) ∧ W0.cell? ⟨R + 1, 3, none⟩ = some (.string s)) := ⟨p0, p1, p2, p3, o1, o3⟩
    go_region_held3 (fun w' => w'.cell? ⟨R, 0, none⟩ = some (.int .i64 ep) ∧ w'.cell? ⟨R, 1, none⟩ = some (.int .i64 re) ∧ w'.cell? ⟨R, 2, none⟩ = some (.int .i64 wr) ∧ w'.cell? ⟨R, 3, none⟩ = some (.string by_) ∧ w'.cell? ⟨R + 1, 1, none⟩ = some (.int .i64 e) ∧ w'.cell? ⟨R + 1, 3, none⟩ = some (.string s)) (first | with_reducible exact P0.out | with_reducible exact P1.out | with_reducible exact P2.out | go_keep)
      (first
        | (go_at_call 96; refine (rfWrite_any ep re wr by_ e s hs _).mono ?_; rw [Hst.out]; rintro r w1 ⟨rfl, hb⟩; have H3 := Lib.hid (HS.out.drew.later hb); have P1 : Hid (w1.cell? ⟨R, 0, none⟩ = some (.int .i64 ep) ∧ w1.cell? ⟨R, 1, none⟩ = some (.int .i64 re) ∧ w1.cell? ⟨R, 2, none⟩ = some (.int .i64 wr) ∧ w1.cell? ⟨R, 3, none⟩ = some (.string by_) ∧ w1.cell? ⟨R + 1, 1, none⟩ = some (.int .i64 e) ∧ w1.cell? ⟨R + 1, 3, none⟩ = some (.string s)) := ⟨H3.out.cellP 0 rfl, H3.out.cellP 1 rfl, H3.out.cellP 2 rfl, H3.out.cellP 3 rfl, H3.out.cellO 1 rfl, H3.out.cellO 3 rfl⟩; have H4 := Lib.hid (H3.out.next ⟨a, b, c, d⟩); dsimp only at H4; have P2 : Hid (((((w1.setCell ⟨R + 1 + 1 + 1, 0, none⟩ (.int .i64 a)).setCell ⟨R + 1 + 1 + 1, 1, none⟩ (.int .i64 b)).setCell ⟨R + 1 + 1 + 1, 2, none⟩ (.int .i64 c)).setCell ⟨R + 1 + 1 + 1, 3, none⟩ (.string d)).cell? ⟨R, 0, none⟩ = some (.int .i64 ep) ∧ ((((w1.setCell ⟨R + 1 + 1 + 1, 0, none⟩ (.int .i64 a)).setCell ⟨R + 1 + 1 + 1, 1, none⟩ (.int .i64 b)).setCell ⟨R + 1 + 1 + 1, 2, none⟩ (.int .i64 c)).setCell ⟨R + 1 + 1 + 1, 3, none⟩ (.string d)).cell? ⟨R, 1, none⟩ = some (.int .i64 re) ∧ ((((w1.setCell ⟨R + 1 + 1 + 1, 0, none⟩ (.int .i64 a)).setCell ⟨R + 1 + 1 + 1, 1, none⟩ (.int .i64 b)).setCell ⟨R + 1 + 1 + 1, 2, none⟩ (.int .i64 c)).setCell ⟨R + 1 + 1 + 1, 3, none⟩ (.string d)).cell? ⟨R, 2, none⟩ = some (.int .i64 wr) ∧ ((((w1.setCell ⟨R + 1 + 1 + 1, 0, none⟩ (.int .i64 a)).setCell ⟨R + 1 + 1 + 1, 1, none⟩ (.int .i64 b)).setCell ⟨R + 1 + 1 + 1, 2, none⟩ (.int .i64 c)).setCell ⟨R + 1 + 1 + 1, 3, none⟩ (.string d)).cell? ⟨R, 3, none⟩ = some (.string by_) ∧ ((((w1.setCell ⟨R + 1 + 1 + 1, 0, none⟩ (.int .i64 a)).setCell ⟨R + 1 + 1 + 1, 1, none⟩ (.int .i64 b)).setCell ⟨R + 1 + 1 + 1, 2, none⟩ (.int .i64 c)).setCell ⟨R + 1 + 1 + 1, 3, none⟩ (.string d)).cell? ⟨R + 1, 1, none⟩ = some (.int .i64 e) ∧ ((((w1.setCell ⟨R + 1 + 1 + 1, 0, none⟩ (.int .i64 a)).setCell ⟨R + 1 + 1 + 1, 1, none⟩ (.int .i64 b)).setCell ⟨R + 1 + 1 + 1, 2, none⟩ (.int .i64 c)).setCell ⟨R + 1 + 1 + 1, 3, none⟩ (.string d)).cell? ⟨R + 1, 3, none⟩ = some (.string s)) := ⟨H4.out.cellP 0 rfl, H4.out.cellP 1 rfl, H4.out.cellP 2 rfl, H4.out.cellP 3 rfl, H4.out.cellO 1 rfl, H4.out.cellO 3 rfl⟩; have nf : ∀ i, w1.frozen? ⟨R + 1 + 1 + 1, i, none⟩ = false := fun i => frozen_of_heap H3.out.bn i; have n0 : w1.cell? ⟨R + 1 + 1 + 1, 0, none⟩ = some (.int .i64 ep) := H3.out.cellN 0 rfl; have n1 : w1.cell? ⟨R + 1 + 1 + 1, 1, none⟩ = some (.int .i64 re) := H3.out.cellN 1 rfl; have n2 : w1.cell? ⟨R + 1 + 1 + 1, 2, none⟩ = some (.int .i64 wr) := H3.out.cellN 2 rfl; have n3 : w1.cell? ⟨R + 1 + 1 + 1, 3, none⟩ = some (.string by_) := H3.out.cellN 3 rfl; clear hb; dsimp only [pipeV])
        | fail)
    all_goals
      clear P0 P1 P2 n0 n1 n2 n3 nf H3 p0 p1 p2 p3 o1 o3 HS
      generalize ((((w1.setCell ⟨R + 1 + 1 + 1, 0, none⟩ (.int .i64 a)).setCell ⟨R + 1 + 1 + 1, 1, none⟩ (.int .i64 b)).setCell ⟨R + 1 + 1 + 1, 2, none⟩ (.int .i64 c)).setCell ⟨R + 1 + 1 + 1, 3, none⟩ (.string d)) = W at *
      go_upto_region 22 with fail
      have hcmp : samePB ⟨0, 0, 0, ⟨#[]⟩⟩ ⟨0, 0, 0, ⟨#[]⟩⟩ = true := decide_eq_true rfl
      obtain ⟨r0, r1, r2, r3, r4, r5, r6, n0, n1, n2, n3, g0, g1, g2, g3⟩ := H4.out.reads
      dsimp only at n0 n1 n2 n3 g0 g1 g2 g3
      have S0 : Hid (W.cell? ⟨R + 1 + 1, 0, none⟩ = some (.int .i64 q) ∧ W.cell? ⟨R + 1 + 1, 1, none⟩ = some (.int .i64 m) ∧ W.cell? ⟨R + 1 + 1, 2, none⟩ = some (.string ⟨#[]⟩) ∧ W.cell? ⟨R + 1 + 1, 3, none⟩ = some (.int .i64 0) ∧ W.cell? ⟨R + 1 + 1, 4, none⟩ = some (.int .i64 0) ∧ W.cell? ⟨R + 1 + 1, 5, none⟩ = some (.int .i64 0) ∧ W.cell? ⟨R + 1 + 1, 6, none⟩ = some (.string ⟨#[]⟩) ∧ W.cell? ⟨R + 1 + 1 + 1, 0, none⟩ = some (.int .i64 a) ∧ W.cell? ⟨R + 1 + 1 + 1, 1, none⟩ = some (.int .i64 b) ∧ W.cell? ⟨R + 1 + 1 + 1, 2, none⟩ = some (.int .i64 c) ∧ W.cell? ⟨R + 1 + 1 + 1, 3, none⟩ = some (.string d) ∧ W.cell? ⟨R + 1 + 1 + 1 + 1, 0, none⟩ = some (.int .i64 0) ∧ W.cell? ⟨R + 1 + 1 + 1 + 1, 1, none⟩ = some (.int .i64 0) ∧ W.cell? ⟨R + 1 + 1 + 1 + 1, 2, none⟩ = some (.int .i64 0) ∧ W.cell? ⟨R + 1 + 1 + 1 + 1, 3, none⟩ = some (.string ⟨#[]⟩)) := ⟨r0, r1, r2, r3, r4, r5, r6, n0, n1, n2, n3, g0, g1, g2, g3⟩
      go_region_held3 (fun w' => w'.cell? ⟨R + 1 + 1, 0, none⟩ = some (.int .i64 q) ∧ w'.cell? ⟨R + 1 + 1, 1, none⟩ = some (.int .i64 m) ∧ w'.cell? ⟨R + 1 + 1, 2, none⟩ = some (.string ⟨#[]⟩) ∧ w'.cell? ⟨R + 1 + 1, 3, none⟩ = some (.int .i64 0) ∧ w'.cell? ⟨R + 1 + 1, 4, none⟩ = some (.int .i64 0) ∧ w'.cell? ⟨R + 1 + 1, 5, none⟩ = some (.int .i64 0) ∧ w'.cell? ⟨R + 1 + 1, 6, none⟩ = some (.string ⟨#[]⟩) ∧ w'.cell? ⟨R + 1 + 1 + 1, 0, none⟩ = some (.int .i64 a) ∧ w'.cell? ⟨R + 1 + 1 + 1, 1, none⟩ = some (.int .i64 b) ∧ w'.cell? ⟨R + 1 + 1 + 1, 2, none⟩ = some (.int .i64 c) ∧ w'.cell? ⟨R + 1 + 1 + 1, 3, none⟩ = some (.string d) ∧ w'.cell? ⟨R + 1 + 1 + 1 + 1, 0, none⟩ = some (.int .i64 0) ∧ w'.cell? ⟨R + 1 + 1 + 1 + 1, 1, none⟩ = some (.int .i64 0) ∧ w'.cell? ⟨R + 1 + 1 + 1 + 1, 2, none⟩ = some (.int .i64 0) ∧ w'.cell? ⟨R + 1 + 1 + 1 + 1, 3, none⟩ = some (.string ⟨#[]⟩)) (first | with_reducible exact S0.out | with_reducible exact S1.out | with_reducible exact S2.out | go_keep)
        (first
          | (go_at_call 100; refine (smTo_any 0 0 0 ⟨#[]⟩ _).mono ?_; rintro r v1 ⟨rfl, hb⟩; have H5 := Lib.hid (H4.out.drew.later hb); have S1 := Lib.hid H5.out.reads; unfold SmC at S1; dsimp only at S1; have H6 := Lib.hid (H5.out.next ⟨a, b, c, d⟩); dsimp only at H6; have S2 := Lib.hid H6.out.reads; unfold SmC at S2; dsimp only at S2; have nf : ∀ i, v1.frozen? ⟨R + 1 + 1 + 1, i, none⟩ = false := fun i => frozen_of_heap H5.out.bn i; clear hb)
          | fail)
      clear S0 S1 S2 n0 n1 n2 n3 g0 g1 g2 g3 r0 r1 r2 r3 r4 r5 r6 nf H4 H5
      generalize ((((v1.setCell ⟨R + 1 + 1 + 1, 0, none⟩ (.int .i64 a)).setCell ⟨R + 1 + 1 + 1, 1, none⟩ (.int .i64 b)).setCell ⟨R + 1 + 1 + 1, 2, none⟩ (.int .i64 c)).setCell ⟨R + 1 + 1 + 1, 3, none⟩ (.string d)) = W2 at *
      have n0 : W2.cell? ⟨R + 1 + 1 + 1, 0, none⟩ = some (.int .i64 a) := H6.out.cellN 0 rfl
      have n1 : W2.cell? ⟨R + 1 + 1 + 1, 1, none⟩ = some (.int .i64 b) := H6.out.cellN 1 rfl
      have n2 : W2.cell? ⟨R + 1 + 1 + 1, 2, none⟩ = some (.int .i64 c) := H6.out.cellN 2 rfl
      have n3 : W2.cell? ⟨R + 1 + 1 + 1, 3, none⟩ = some (.string d) := H6.out.cellN 3 rfl
      have HL := Lib.hid H6.out.low
      clear H6
      go_wp2
      refine bodyPost_ret (v := .tuple #[.agg #[.int .i64 a, .int .i64 b, .int .i64 c, .string d], .bool true]) (by simp [results, Tryz.results37, go_sem, n0, n1, n2, n3]) rfl ?_
      subst hR
      exact ⟨rfl, HL.out⟩

set_option maxRecDepth 100000 in
set_option maxHeartbeats 1600000 in
theorem sm_write2 (ep re wr : Int) (by_ : ByteArray) (kd : Nat) (e n : Int) (s : ByteArray) (x : Bool) (hk : kd % 8 = 3 ∨ kd % 8 = 4) (hkd : kd ≤ 255) (he : pEpochB e = true) (hs : s.size ≤ 9223372036854775807) (a b c : Int) (d : ByteArray) (q m : Nat) (hz : 600 < s.size) (hst : rWrite (s.extract 0 600) ⟨ep, re, wr, by_⟩ e = (⟨a, b, c, d⟩, m, q)) (w : World) :
    Calls Tryz.prog 37 #[.agg #[.int .i64 ep, .int .i64 re, .int .i64 wr, .string by_], .agg #[.int .u8 kd, .int .i64 e, .int .i64 n, .string s, .bool x], .agg #[.int .i64 q, .int .i64 m, .string ⟨#[]⟩, .int .i64 0, .int .i64 0, .int .i64 0, .string ⟨#[]⟩]] w (SmP w ⟨a, b, c, d⟩) := by
  have Hst := Lib.hid hst; clear hst
  have Hz2 : Hid ((s.extract 0 600).size ≤ 9223372036854775807) := by show _ ≤ _; rw [ByteArray.size_extract]; omega
  have hz1 : (600 : Int) < (s.size : Int) := by omega
  have hmin : (if (600 : Int) < (s.size : Int) then (600 : Int) else (s.size : Int)) = 600 := if_pos hz1
  have hz0 : (600 : Int) ≤ (s.size : Int) := by omega
  have hlt : kd < 256 := by omega
  obtain ⟨he0, he1⟩ := epoch_tests he
  clear he
  have HS := Lib.hid (sm_start w (#[.int .u8 kd, .int .i64 e, .int .i64 n, .string s, .bool x]) (#[.int .i64 q, .int .i64 m, .string ⟨#[]⟩, .int .i64 0, .int .i64 0, .int .i64 0, .string ⟨#[]⟩]) ⟨ep, re, wr, by_⟩)
  unfold smW0 pCells at HS
  dsimp only at HS
  have hways : (kd : Int) % 8 = 3 ∨ (kd : Int) % 8 = 4 := by omega
  clear hk
  rcases hways with hk' | hk'
  all_goals
    go_enter Tryz.func37, Tryz.ntmps37
    go_upto_region 17 with fail
    generalize hR : w.heap.size = R at *
    generalize ((((w.alloc (.cells #[.int .i64 ep, .int .i64 re, .int .i64 wr, .string by_] 63)).alloc (.cells #[.int .u8 kd, .int .i64 e, .int .i64 n, .string s, .bool x] 81)).alloc (.cells #[.int .i64 q, .int .i64 m, .string ⟨#[]⟩, .int .i64 0, .int .i64 0, .int .i64 0, .string ⟨#[]⟩] 83)).alloc (.cells #[.int .i64 ep, .int .i64 re, .int .i64 wr, .string by_] 63)).alloc (.cells #[.int .i64 0, .int .i64 0, .int .i64 0, .string ⟨#[]⟩] 63) = W0 at *
    have p0 : W0.cell? ⟨R, 0, none⟩ = some (.int .i64 ep) := HS.out.cellP 0 rfl
    have p1 : W0.cell? ⟨R, 1, none⟩ = some (.int .i64 re) := HS.out.cellP 1 rfl
    have p2 : W0.cell? ⟨R, 2, none⟩ = some (.int .i64 wr) := HS.out.cellP 2 rfl
    have p3 : W0.cell? ⟨R, 3, none⟩ = some (.string by_) := HS.out.cellP 3 rfl
    have o1 : W0.cell? ⟨R + 1, 1, none⟩ = some (.int .i64 e) := HS.out.cellO 1 rfl
    have o3 : W0.cell? ⟨R + 1, 3, none⟩ = some (.string s) := HS.out.cellO 3 rfl
    have P0 : Hid (W0.cell? ⟨R, 0, none⟩ = some (.int .i64 ep) ∧ W0.cell? ⟨R, 1, none⟩ = some (.int .i64 re) ∧ W0.cell? ⟨R, 2, none⟩ = some (.int .i64 wr) ∧ W0.cell? ⟨R, 3, none⟩ = some (.string by_) ∧ W0.cell? ⟨R + 1, 1, none⟩ = some (.int .i64 e) ∧ W0.cell? ⟨R + 1, 3, none⟩ = some (.string s)) := ⟨p0, p1, p2, p3, o1, o3⟩
    go_region_held3 (fun w' => w'.cell? ⟨R, 0, none⟩ = some (.int .i64 ep) ∧ w'.cell? ⟨R, 1, none⟩ = some (.int .i64 re) ∧ w'.cell? ⟨R, 2, none⟩ = some (.int .i64 wr) ∧ w'.cell? ⟨R, 3, none⟩ = some (.string by_) ∧ w'.cell? ⟨R + 1, 1, none⟩ = some (.int .i64 e) ∧ w'.cell? ⟨R + 1, 3, none⟩ = some (.string s)) (first | with_reducible exact P0.out | with_reducible exact P1.out | with_reducible exact P2.out | go_keep)
      (first
        | (go_at_call 96; refine (rfWrite_any ep re wr by_ e (s.extract 0 600) Hz2.out _).mono ?_; rw [Hst.out]; rintro r w1 ⟨rfl, hb⟩; have H3 := Lib.hid (HS.out.drew.later hb); have P1 : Hid (w1.cell? ⟨R, 0, none⟩ = some (.int .i64 ep) ∧ w1.cell? ⟨R, 1, none⟩ = some (.int .i64 re) ∧ w1.cell? ⟨R, 2, none⟩ = some (.int .i64 wr) ∧ w1.cell? ⟨R, 3, none⟩ = some (.string by_) ∧ w1.cell? ⟨R + 1, 1, none⟩ = some (.int .i64 e) ∧ w1.cell? ⟨R + 1, 3, none⟩ = some (.string s)) := ⟨H3.out.cellP 0 rfl, H3.out.cellP 1 rfl, H3.out.cellP 2 rfl, H3.out.cellP 3 rfl, H3.out.cellO 1 rfl, H3.out.cellO 3 rfl⟩; have H4 := Lib.hid (H3.out.next ⟨a, b, c, d⟩); dsimp only at H4; have P2 : Hid (((((w1.setCell ⟨R + 1 + 1 + 1, 0, none⟩ (.int .i64 a)).setCell ⟨R + 1 + 1 + 1, 1, none⟩ (.int .i64 b)).setCell ⟨R + 1 + 1 + 1, 2, none⟩ (.int .i64 c)).setCell ⟨R + 1 + 1 + 1, 3, none⟩ (.string d)).cell? ⟨R, 0, none⟩ = some (.int .i64 ep) ∧ ((((w1.setCell ⟨R + 1 + 1 + 1, 0, none⟩ (.int .i64 a)).setCell ⟨R + 1 + 1 + 1, 1, none⟩ (.int .i64 b)).setCell ⟨R + 1 + 1 + 1, 2, none⟩ (.int .i64 c)).setCell ⟨R + 1 + 1 + 1, 3, none⟩ (.string d)).cell? ⟨R, 1, none⟩ = some (.int .i64 re) ∧ ((((w1.setCell ⟨R + 1 + 1 + 1, 0, none⟩ (.int .i64 a)).setCell ⟨R + 1 + 1 + 1, 1, none⟩ (.int .i64 b)).setCell ⟨R + 1 + 1 + 1, 2, none⟩ (.int .i64 c)).setCell ⟨R + 1 + 1 + 1, 3, none⟩ (.string d)).cell? ⟨R, 2, none⟩ = some (.int .i64 wr) ∧ ((((w1.setCell ⟨R + 1 + 1 + 1, 0, none⟩ (.int .i64 a)).setCell ⟨R + 1 + 1 + 1, 1, none⟩ (.int .i64 b)).setCell ⟨R + 1 + 1 + 1, 2, none⟩ (.int .i64 c)).setCell ⟨R + 1 + 1 + 1, 3, none⟩ (.string d)).cell? ⟨R, 3, none⟩ = some (.string by_) ∧ ((((w1.setCell ⟨R + 1 + 1 + 1, 0, none⟩ (.int .i64 a)).setCell ⟨R + 1 + 1 + 1, 1, none⟩ (.int .i64 b)).setCell ⟨R + 1 + 1 + 1, 2, none⟩ (.int .i64 c)).setCell ⟨R + 1 + 1 + 1, 3, none⟩ (.string d)).cell? ⟨R + 1, 1, none⟩ = some (.int .i64 e) ∧ ((((w1.setCell ⟨R + 1 + 1 + 1, 0, none⟩ (.int .i64 a)).setCell ⟨R + 1 + 1 + 1, 1, none⟩ (.int .i64 b)).setCell ⟨R + 1 + 1 + 1, 2, none⟩ (.int .i64 c)).setCell ⟨R + 1 + 1 + 1, 3, none⟩ (.string d)).cell? ⟨R + 1, 3, none⟩ = some (.string s)) := ⟨H4.out.cellP 0 rfl, H4.out.cellP 1 rfl, H4.out.cellP 2 rfl, H4.out.cellP 3 rfl, H4.out.cellO 1 rfl, H4.out.cellO 3 rfl⟩; have nf : ∀ i, w1.frozen? ⟨R + 1 + 1 + 1, i, none⟩ = false := fun i => frozen_of_heap H3.out.bn i; have n0 : w1.cell? ⟨R + 1 + 1 + 1, 0, none⟩ = some (.int .i64 ep) := H3.out.cellN 0 rfl; have n1 : w1.cell? ⟨R + 1 + 1 + 1, 1, none⟩ = some (.int .i64 re) := H3.out.cellN 1 rfl; have n2 : w1.cell? ⟨R + 1 + 1 + 1, 2, none⟩ = some (.int .i64 wr) := H3.out.cellN 2 rfl; have n3 : w1.cell? ⟨R + 1 + 1 + 1, 3, none⟩ = some (.string by_) := H3.out.cellN 3 rfl; clear hb; dsimp only [pipeV])
        | fail)
    all_goals
      clear P0 P1 P2 n0 n1 n2 n3 nf H3 p0 p1 p2 p3 o1 o3 HS
      generalize ((((w1.setCell ⟨R + 1 + 1 + 1, 0, none⟩ (.int .i64 a)).setCell ⟨R + 1 + 1 + 1, 1, none⟩ (.int .i64 b)).setCell ⟨R + 1 + 1 + 1, 2, none⟩ (.int .i64 c)).setCell ⟨R + 1 + 1 + 1, 3, none⟩ (.string d)) = W at *
      go_upto_region 22 with fail
      have hcmp : samePB ⟨0, 0, 0, ⟨#[]⟩⟩ ⟨0, 0, 0, ⟨#[]⟩⟩ = true := decide_eq_true rfl
      obtain ⟨r0, r1, r2, r3, r4, r5, r6, n0, n1, n2, n3, g0, g1, g2, g3⟩ := H4.out.reads
      dsimp only at n0 n1 n2 n3 g0 g1 g2 g3
      have S0 : Hid (W.cell? ⟨R + 1 + 1, 0, none⟩ = some (.int .i64 q) ∧ W.cell? ⟨R + 1 + 1, 1, none⟩ = some (.int .i64 m) ∧ W.cell? ⟨R + 1 + 1, 2, none⟩ = some (.string ⟨#[]⟩) ∧ W.cell? ⟨R + 1 + 1, 3, none⟩ = some (.int .i64 0) ∧ W.cell? ⟨R + 1 + 1, 4, none⟩ = some (.int .i64 0) ∧ W.cell? ⟨R + 1 + 1, 5, none⟩ = some (.int .i64 0) ∧ W.cell? ⟨R + 1 + 1, 6, none⟩ = some (.string ⟨#[]⟩) ∧ W.cell? ⟨R + 1 + 1 + 1, 0, none⟩ = some (.int .i64 a) ∧ W.cell? ⟨R + 1 + 1 + 1, 1, none⟩ = some (.int .i64 b) ∧ W.cell? ⟨R + 1 + 1 + 1, 2, none⟩ = some (.int .i64 c) ∧ W.cell? ⟨R + 1 + 1 + 1, 3, none⟩ = some (.string d) ∧ W.cell? ⟨R + 1 + 1 + 1 + 1, 0, none⟩ = some (.int .i64 0) ∧ W.cell? ⟨R + 1 + 1 + 1 + 1, 1, none⟩ = some (.int .i64 0) ∧ W.cell? ⟨R + 1 + 1 + 1 + 1, 2, none⟩ = some (.int .i64 0) ∧ W.cell? ⟨R + 1 + 1 + 1 + 1, 3, none⟩ = some (.string ⟨#[]⟩)) := ⟨r0, r1, r2, r3, r4, r5, r6, n0, n1, n2, n3, g0, g1, g2, g3⟩
      go_region_held3 (fun w' => w'.cell? ⟨R + 1 + 1, 0, none⟩ = some (.int .i64 q) ∧ w'.cell? ⟨R + 1 + 1, 1, none⟩ = some (.int .i64 m) ∧ w'.cell? ⟨R + 1 + 1, 2, none⟩ = some (.string ⟨#[]⟩) ∧ w'.cell? ⟨R + 1 + 1, 3, none⟩ = some (.int .i64 0) ∧ w'.cell? ⟨R + 1 + 1, 4, none⟩ = some (.int .i64 0) ∧ w'.cell? ⟨R + 1 + 1, 5, none⟩ = some (.int .i64 0) ∧ w'.cell? ⟨R + 1 + 1, 6, none⟩ = some (.string ⟨#[]⟩) ∧ w'.cell? ⟨R + 1 + 1 + 1, 0, none⟩ = some (.int .i64 a) ∧ w'.cell? ⟨R + 1 + 1 + 1, 1, none⟩ = some (.int .i64 b) ∧ w'.cell? ⟨R + 1 + 1 + 1, 2, none⟩ = some (.int .i64 c) ∧ w'.cell? ⟨R + 1 + 1 + 1, 3, none⟩ = some (.string d) ∧ w'.cell? ⟨R + 1 + 1 + 1 + 1, 0, none⟩ = some (.int .i64 0) ∧ w'.cell? ⟨R + 1 + 1 + 1 + 1, 1, none⟩ = some (.int .i64 0) ∧ w'.cell? ⟨R + 1 + 1 + 1 + 1, 2, none⟩ = some (.int .i64 0) ∧ w'.cell? ⟨R + 1 + 1 + 1 + 1, 3, none⟩ = some (.string ⟨#[]⟩)) (first | with_reducible exact S0.out | with_reducible exact S1.out | with_reducible exact S2.out | go_keep)
        (first
          | (go_at_call 100; refine (smTo_any 0 0 0 ⟨#[]⟩ _).mono ?_; rintro r v1 ⟨rfl, hb⟩; have H5 := Lib.hid (H4.out.drew.later hb); have S1 := Lib.hid H5.out.reads; unfold SmC at S1; dsimp only at S1; have H6 := Lib.hid (H5.out.next ⟨a, b, c, d⟩); dsimp only at H6; have S2 := Lib.hid H6.out.reads; unfold SmC at S2; dsimp only at S2; have nf : ∀ i, v1.frozen? ⟨R + 1 + 1 + 1, i, none⟩ = false := fun i => frozen_of_heap H5.out.bn i; clear hb)
          | fail)
      clear S0 S1 S2 n0 n1 n2 n3 g0 g1 g2 g3 r0 r1 r2 r3 r4 r5 r6 nf H4 H5
      generalize ((((v1.setCell ⟨R + 1 + 1 + 1, 0, none⟩ (.int .i64 a)).setCell ⟨R + 1 + 1 + 1, 1, none⟩ (.int .i64 b)).setCell ⟨R + 1 + 1 + 1, 2, none⟩ (.int .i64 c)).setCell ⟨R + 1 + 1 + 1, 3, none⟩ (.string d)) = W2 at *
      have n0 : W2.cell? ⟨R + 1 + 1 + 1, 0, none⟩ = some (.int .i64 a) := H6.out.cellN 0 rfl
      have n1 : W2.cell? ⟨R + 1 + 1 + 1, 1, none⟩ = some (.int .i64 b) := H6.out.cellN 1 rfl
      have n2 : W2.cell? ⟨R + 1 + 1 + 1, 2, none⟩ = some (.int .i64 c) := H6.out.cellN 2 rfl
      have n3 : W2.cell? ⟨R + 1 + 1 + 1, 3, none⟩ = some (.string d) := H6.out.cellN 3 rfl
      have HL := Lib.hid H6.out.low
      clear H6
      go_wp2
      refine bodyPost_ret (v := .tuple #[.agg #[.int .i64 a, .int .i64 b, .int .i64 c, .string d], .bool true]) (by simp [results, Tryz.results37, go_sem, n0, n1, n2, n3]) rfl ?_
      subst hR
      exact ⟨rfl, HL.out⟩

end Go.Proofs.YtemmeopaihmlcaaGreatDoor
