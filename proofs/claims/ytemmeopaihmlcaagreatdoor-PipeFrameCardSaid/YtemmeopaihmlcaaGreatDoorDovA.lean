/- Law 32: do upon a view of whatever value. Law 32: do upon a view of whatever value. Law 32: do upon a view of whatever value. -/
import Derived.Test.YtemmeopaihmlcaaGreatDoorQmA
namespace Go.Proofs.YtemmeopaihmlcaaGreatDoor
open Go.RowKit
attribute [local go_sem ↓] Go.wp_at_zero Go.wp_at_succ

set_option maxRecDepth 100000 in
set_option maxHeartbeats 1600000 in
theorem dv_make (w0 w : World) (b M : Nat) (V V' : AV) (G : Nat → Prop) (kd : Nat) (e n : Int) (s : ByteArray) (x : Bool) (hk : kd % 8 = 0) (hkd : kd ≤ 255) (sp : QM w0 w b M V G) (hN : PReady V oneM 2) (q : Nat) (hst : pMake V oneM 2 e = (V', q)) :
    Calls Tryz.prog 38 #[.pointer (some ⟨b, 0, none⟩), .agg #[.int .u8 kd, .int .i64 e, .int .i64 n, .string s, .bool x]] w (QMP w0 b M V' G w (resV ⟨q, 0, ⟨#[]⟩, zeroP⟩)) := by
  have D0 := Lib.hid (dov_start (opc := #[.int .u8 kd, .int .i64 e, .int .i64 n, .string s, .bool x]) sp)
  have Hg := Lib.hid (qguard_new sp)
  clear sp
  have HN := Lib.hid hN; clear hN
  have Hst := Lib.hid hst; clear hst
  have hlt : kd < 256 := by omega
  have hk' : (kd : Int) % 8 = 0 := by omega
  go_enter Tryz.func38, Tryz.ntmps38
  go_wp2_with fail
  unfold zRes at D0
  generalize hR : w.heap.size = R at *
  generalize ((w.alloc (.cells #[.int .u8 kd, .int .i64 e, .int .i64 n, .string s, .bool x] 81)).alloc (.cells #[.int .i64 0, .int .i64 0, .string ⟨#[]⟩, .int .i64 0, .int .i64 0, .int .i64 0, .string ⟨#[]⟩] 83)).alloc (.cells #[.int .i64 0, .int .i64 0, .string ⟨#[]⟩, .int .i64 0, .int .i64 0, .int .i64 0, .string ⟨#[]⟩] 83) = W at *
  have hi1 : Hid ((#[.int .u8 kd, .int .i64 e, .int .i64 n, .string s, .bool x] : Array Value)[1]? = some (.int .i64 e)) := rfl
  have c1 : W.cell? ⟨R, 1, none⟩ = some (.int .i64 e) := cell_of_heap D0.out.op 1
  have Dd := Lib.hid D0.out.drew
  clear D0
  go_region_held3 (fun w' => w'.cell? ⟨R, 1, none⟩ = some (.int .i64 e)) (first | with_reducible exact c1 | with_reducible exact qop_cell D1.out (Kept.refl _ _) hi1.out | with_reducible exact qop_cell D2.out (Kept.refl _ _) hi1.out | with_reducible exact qop_cell D2.out (kset (Kept.refl _ _)) hi1.out | go_keep)
    (first
      | (go_at_call 28; refine (one_any _).mono ?_; rintro r w1 ⟨rfl, hb1⟩; have D1 := Lib.hid (Dd.out.later hb1); clear hb1)
      | (go_at_call 31; refine (qmMake' D1.out.sp HN.out Hst.out).mono ?_; rintro r w2 ⟨rfl, s2, hk2⟩; have D2 := Lib.hid (D1.out.step s2 hk2); clear s2 hk2; have q0 := cell_of_heap D2.out.res 0; have f0 : w2.frozen? ⟨R + 1 + 1, 0, none⟩ = false := frozen_of_heap D2.out.res 0; dsimp [zRes] at q0)
      | fail)
  have HK : Hid (Kept (fun k => k = R + 1 ∨ k = R + 1 + 1) w2 (w2.setCell ⟨R + 1 + 1, 0, none⟩ (.int .i64 q))) := kset (Kept.refl _ _)
  have hO : (w2.setCell ⟨R + 1 + 1, 0, none⟩ (.int .i64 q)).heap[R + 1]? = some (.cells zRes 83 (0, 0)) := ((Below.heap_setCell _ _ _ _ (by show R + 1 ≠ R + 1 + 1; omega)).trans D2.out.out)
  have hS0 : (w2.setCell ⟨R + 1 + 1, 0, none⟩ (.int .i64 q)).heap[R + 1 + 1]? = some (.cells #[.int .i64 q, .int .i64 0, .string ⟨#[]⟩, .int .i64 0, .int .i64 0, .int .i64 0, .string ⟨#[]⟩] 83 (0, 0)) := heap_setCell_same D2.out.res 0 _
  clear c1 q0 f0
  generalize (w2.setCell ⟨R + 1 + 1, 0, none⟩ (.int .i64 q)) = W2 at *
  have s0 : W2.cell? ⟨R + 1 + 1, 0, none⟩ = some (.int .i64 q) := cell_of_heap hS0 0
  have s1 : W2.cell? ⟨R + 1 + 1, 1, none⟩ = some (.int .i64 0) := cell_of_heap hS0 1
  have s2 : W2.cell? ⟨R + 1 + 1, 2, none⟩ = some (.string ⟨#[]⟩) := cell_of_heap hS0 2
  have s3 : W2.cell? ⟨R + 1 + 1, 3, none⟩ = some (.int .i64 0) := cell_of_heap hS0 3
  have s4 : W2.cell? ⟨R + 1 + 1, 4, none⟩ = some (.int .i64 0) := cell_of_heap hS0 4
  have s5 : W2.cell? ⟨R + 1 + 1, 5, none⟩ = some (.int .i64 0) := cell_of_heap hS0 5
  have s6 : W2.cell? ⟨R + 1 + 1, 6, none⟩ = some (.string ⟨#[]⟩) := cell_of_heap hS0 6
  have t0 : W2.cell? ⟨R + 1, 0, none⟩ = some (.int .i64 0) := cell_of_heap hO 0
  have t1 : W2.cell? ⟨R + 1, 1, none⟩ = some (.int .i64 0) := cell_of_heap hO 1
  have t2 : W2.cell? ⟨R + 1, 2, none⟩ = some (.string ⟨#[]⟩) := cell_of_heap hO 2
  have t3 : W2.cell? ⟨R + 1, 3, none⟩ = some (.int .i64 0) := cell_of_heap hO 3
  have t4 : W2.cell? ⟨R + 1, 4, none⟩ = some (.int .i64 0) := cell_of_heap hO 4
  have t5 : W2.cell? ⟨R + 1, 5, none⟩ = some (.int .i64 0) := cell_of_heap hO 5
  have t6 : W2.cell? ⟨R + 1, 6, none⟩ = some (.string ⟨#[]⟩) := cell_of_heap hO 6
  have hf : ∀ i, W2.frozen? ⟨R + 1, i, none⟩ = false := fun i => frozen_of_heap hO i
  have HO := Lib.hid hO; clear hO hS0
  go_wp2
  have yy := set7_cell HO.out (.int .i64 q) (.int .i64 0) (.string ⟨#[]⟩) (.int .i64 0) (.int .i64 0) (.int .i64 0) (.string ⟨#[]⟩)
  have y0 := yy 0
  have y1 := yy 1
  have y2 := yy 2
  have y3 := yy 3
  have y4 := yy 4
  have y5 := yy 5
  have y6 := yy 6
  dsimp at y0 y1 y2 y3 y4 y5 y6
  refine bodyPost_ret (v := .agg #[.int .i64 q, .int .i64 0, .string ⟨#[]⟩, .int .i64 0, .int .i64 0, .int .i64 0, .string ⟨#[]⟩]) (by simp [results, Tryz.results38, go_sem, y0, y1, y2, y3, y4, y5, y6]) rfl ?_
  exact dov_end (r := ⟨q, 0, ⟨#[]⟩, zeroP⟩) D2.out Hg.out HK.out _ _ _ _ _ _ _ rfl

set_option maxRecDepth 100000 in
set_option maxHeartbeats 1600000 in
theorem dv_join (w0 w : World) (b M : Nat) (V V' : AV) (G : Nat → Prop) (kd : Nat) (e n : Int) (s : ByteArray) (x : Bool) (hk : kd % 8 = 5) (hkd : kd ≤ 255) (sp : QM w0 w b M V G) (hN : PReady V oneM 2) (q : Nat) (hst : pChange (opJoin x) V oneM 2 e = (V', q)) :
    Calls Tryz.prog 38 #[.pointer (some ⟨b, 0, none⟩), .agg #[.int .u8 kd, .int .i64 e, .int .i64 n, .string s, .bool x]] w (QMP w0 b M V' G w (resV ⟨q, 0, ⟨#[]⟩, zeroP⟩)) := by
  have D0 := Lib.hid (dov_start (opc := #[.int .u8 kd, .int .i64 e, .int .i64 n, .string s, .bool x]) sp)
  have Hg := Lib.hid (qguard_new sp)
  clear sp
  have HN := Lib.hid hN; clear hN
  have Hst := Lib.hid hst; clear hst
  have hlt : kd < 256 := by omega
  have hk' : (kd : Int) % 8 = 5 := by omega
  go_enter Tryz.func38, Tryz.ntmps38
  go_wp2_with fail
  unfold zRes at D0
  generalize hR : w.heap.size = R at *
  generalize ((w.alloc (.cells #[.int .u8 kd, .int .i64 e, .int .i64 n, .string s, .bool x] 81)).alloc (.cells #[.int .i64 0, .int .i64 0, .string ⟨#[]⟩, .int .i64 0, .int .i64 0, .int .i64 0, .string ⟨#[]⟩] 83)).alloc (.cells #[.int .i64 0, .int .i64 0, .string ⟨#[]⟩, .int .i64 0, .int .i64 0, .int .i64 0, .string ⟨#[]⟩] 83) = W at *
  have hi1 : Hid ((#[.int .u8 kd, .int .i64 e, .int .i64 n, .string s, .bool x] : Array Value)[1]? = some (.int .i64 e)) := rfl
  have hi4 : Hid ((#[.int .u8 kd, .int .i64 e, .int .i64 n, .string s, .bool x] : Array Value)[4]? = some (.bool x)) := rfl
  have c1 : W.cell? ⟨R, 1, none⟩ = some (.int .i64 e) := cell_of_heap D0.out.op 1
  have c4 : W.cell? ⟨R, 4, none⟩ = some (.bool x) := cell_of_heap D0.out.op 4
  have Dd := Lib.hid D0.out.drew
  clear D0
  go_region_held3 (fun w' => w'.cell? ⟨R, 1, none⟩ = some (.int .i64 e) ∧ w'.cell? ⟨R, 4, none⟩ = some (.bool x)) (first | with_reducible exact ⟨c1, c4⟩ | with_reducible exact ⟨qop_cell D1.out (Kept.refl _ _) hi1.out, qop_cell D1.out (Kept.refl _ _) hi4.out⟩ | with_reducible exact ⟨qop_cell D2.out (Kept.refl _ _) hi1.out, qop_cell D2.out (Kept.refl _ _) hi4.out⟩ | with_reducible exact ⟨qop_cell D2.out (kset (Kept.refl _ _)) hi1.out, qop_cell D2.out (kset (Kept.refl _ _)) hi4.out⟩ | go_keep)
    (first
      | (go_at_call 28; refine (one_any _).mono ?_; rintro r w1 ⟨rfl, hb1⟩; have D1 := Lib.hid (Dd.out.later hb1); clear hb1)
      | (go_at_call 35; refine (qmJoin' D1.out.sp HN.out Hst.out).mono ?_; rintro r w2 ⟨rfl, s2, hk2⟩; have D2 := Lib.hid (D1.out.step s2 hk2); clear s2 hk2; have q0 := cell_of_heap D2.out.res 0; have f0 : w2.frozen? ⟨R + 1 + 1, 0, none⟩ = false := frozen_of_heap D2.out.res 0; dsimp [zRes] at q0)
      | fail)
  have HK : Hid (Kept (fun k => k = R + 1 ∨ k = R + 1 + 1) w2 (w2.setCell ⟨R + 1 + 1, 0, none⟩ (.int .i64 q))) := kset (Kept.refl _ _)
  have hO : (w2.setCell ⟨R + 1 + 1, 0, none⟩ (.int .i64 q)).heap[R + 1]? = some (.cells zRes 83 (0, 0)) := ((Below.heap_setCell _ _ _ _ (by show R + 1 ≠ R + 1 + 1; omega)).trans D2.out.out)
  have hS0 : (w2.setCell ⟨R + 1 + 1, 0, none⟩ (.int .i64 q)).heap[R + 1 + 1]? = some (.cells #[.int .i64 q, .int .i64 0, .string ⟨#[]⟩, .int .i64 0, .int .i64 0, .int .i64 0, .string ⟨#[]⟩] 83 (0, 0)) := heap_setCell_same D2.out.res 0 _
  clear c1 c4 q0 f0
  generalize (w2.setCell ⟨R + 1 + 1, 0, none⟩ (.int .i64 q)) = W2 at *
  have s0 : W2.cell? ⟨R + 1 + 1, 0, none⟩ = some (.int .i64 q) := cell_of_heap hS0 0
  have s1 : W2.cell? ⟨R + 1 + 1, 1, none⟩ = some (.int .i64 0) := cell_of_heap hS0 1
  have s2 : W2.cell? ⟨R + 1 + 1, 2, none⟩ = some (.string ⟨#[]⟩) := cell_of_heap hS0 2
  have s3 : W2.cell? ⟨R + 1 + 1, 3, none⟩ = some (.int .i64 0) := cell_of_heap hS0 3
  have s4 : W2.cell? ⟨R + 1 + 1, 4, none⟩ = some (.int .i64 0) := cell_of_heap hS0 4
  have s5 : W2.cell? ⟨R + 1 + 1, 5, none⟩ = some (.int .i64 0) := cell_of_heap hS0 5
  have s6 : W2.cell? ⟨R + 1 + 1, 6, none⟩ = some (.string ⟨#[]⟩) := cell_of_heap hS0 6
  have t0 : W2.cell? ⟨R + 1, 0, none⟩ = some (.int .i64 0) := cell_of_heap hO 0
  have t1 : W2.cell? ⟨R + 1, 1, none⟩ = some (.int .i64 0) := cell_of_heap hO 1
  have t2 : W2.cell? ⟨R + 1, 2, none⟩ = some (.string ⟨#[]⟩) := cell_of_heap hO 2
  have t3 : W2.cell? ⟨R + 1, 3, none⟩ = some (.int .i64 0) := cell_of_heap hO 3
  have t4 : W2.cell? ⟨R + 1, 4, none⟩ = some (.int .i64 0) := cell_of_heap hO 4
  have t5 : W2.cell? ⟨R + 1, 5, none⟩ = some (.int .i64 0) := cell_of_heap hO 5
  have t6 : W2.cell? ⟨R + 1, 6, none⟩ = some (.string ⟨#[]⟩) := cell_of_heap hO 6
  have hf : ∀ i, W2.frozen? ⟨R + 1, i, none⟩ = false := fun i => frozen_of_heap hO i
  have HO := Lib.hid hO; clear hO hS0
  go_wp2
  have yy := set7_cell HO.out (.int .i64 q) (.int .i64 0) (.string ⟨#[]⟩) (.int .i64 0) (.int .i64 0) (.int .i64 0) (.string ⟨#[]⟩)
  have y0 := yy 0
  have y1 := yy 1
  have y2 := yy 2
  have y3 := yy 3
  have y4 := yy 4
  have y5 := yy 5
  have y6 := yy 6
  dsimp at y0 y1 y2 y3 y4 y5 y6
  refine bodyPost_ret (v := .agg #[.int .i64 q, .int .i64 0, .string ⟨#[]⟩, .int .i64 0, .int .i64 0, .int .i64 0, .string ⟨#[]⟩]) (by simp [results, Tryz.results38, go_sem, y0, y1, y2, y3, y4, y5, y6]) rfl ?_
  exact dov_end (r := ⟨q, 0, ⟨#[]⟩, zeroP⟩) D2.out Hg.out HK.out _ _ _ _ _ _ _ rfl

set_option maxRecDepth 100000 in
set_option maxHeartbeats 1600000 in
theorem dv_leave (w0 w : World) (b M : Nat) (V V' : AV) (G : Nat → Prop) (kd : Nat) (e n : Int) (s : ByteArray) (x : Bool) (hk : kd % 8 = 6) (hkd : kd ≤ 255) (sp : QM w0 w b M V G) (hN : PReady V oneM 2) (q : Nat) (hst : pChange (opLeave x) V oneM 2 e = (V', q)) :
    Calls Tryz.prog 38 #[.pointer (some ⟨b, 0, none⟩), .agg #[.int .u8 kd, .int .i64 e, .int .i64 n, .string s, .bool x]] w (QMP w0 b M V' G w (resV ⟨q, 0, ⟨#[]⟩, zeroP⟩)) := by
  have D0 := Lib.hid (dov_start (opc := #[.int .u8 kd, .int .i64 e, .int .i64 n, .string s, .bool x]) sp)
  have Hg := Lib.hid (qguard_new sp)
  clear sp
  have HN := Lib.hid hN; clear hN
  have Hst := Lib.hid hst; clear hst
  have hlt : kd < 256 := by omega
  have hk' : (kd : Int) % 8 = 6 := by omega
  go_enter Tryz.func38, Tryz.ntmps38
  go_wp2_with fail
  unfold zRes at D0
  generalize hR : w.heap.size = R at *
  generalize ((w.alloc (.cells #[.int .u8 kd, .int .i64 e, .int .i64 n, .string s, .bool x] 81)).alloc (.cells #[.int .i64 0, .int .i64 0, .string ⟨#[]⟩, .int .i64 0, .int .i64 0, .int .i64 0, .string ⟨#[]⟩] 83)).alloc (.cells #[.int .i64 0, .int .i64 0, .string ⟨#[]⟩, .int .i64 0, .int .i64 0, .int .i64 0, .string ⟨#[]⟩] 83) = W at *
  have hi1 : Hid ((#[.int .u8 kd, .int .i64 e, .int .i64 n, .string s, .bool x] : Array Value)[1]? = some (.int .i64 e)) := rfl
  have hi4 : Hid ((#[.int .u8 kd, .int .i64 e, .int .i64 n, .string s, .bool x] : Array Value)[4]? = some (.bool x)) := rfl
  have c1 : W.cell? ⟨R, 1, none⟩ = some (.int .i64 e) := cell_of_heap D0.out.op 1
  have c4 : W.cell? ⟨R, 4, none⟩ = some (.bool x) := cell_of_heap D0.out.op 4
  have Dd := Lib.hid D0.out.drew
  clear D0
  go_region_held3 (fun w' => w'.cell? ⟨R, 1, none⟩ = some (.int .i64 e) ∧ w'.cell? ⟨R, 4, none⟩ = some (.bool x)) (first | with_reducible exact ⟨c1, c4⟩ | with_reducible exact ⟨qop_cell D1.out (Kept.refl _ _) hi1.out, qop_cell D1.out (Kept.refl _ _) hi4.out⟩ | with_reducible exact ⟨qop_cell D2.out (Kept.refl _ _) hi1.out, qop_cell D2.out (Kept.refl _ _) hi4.out⟩ | with_reducible exact ⟨qop_cell D2.out (kset (Kept.refl _ _)) hi1.out, qop_cell D2.out (kset (Kept.refl _ _)) hi4.out⟩ | go_keep)
    (first
      | (go_at_call 28; refine (one_any _).mono ?_; rintro r w1 ⟨rfl, hb1⟩; have D1 := Lib.hid (Dd.out.later hb1); clear hb1)
      | (go_at_call 36; refine (qmLeave' D1.out.sp HN.out Hst.out).mono ?_; rintro r w2 ⟨rfl, s2, hk2⟩; have D2 := Lib.hid (D1.out.step s2 hk2); clear s2 hk2; have q0 := cell_of_heap D2.out.res 0; have f0 : w2.frozen? ⟨R + 1 + 1, 0, none⟩ = false := frozen_of_heap D2.out.res 0; dsimp [zRes] at q0)
      | fail)
  have HK : Hid (Kept (fun k => k = R + 1 ∨ k = R + 1 + 1) w2 (w2.setCell ⟨R + 1 + 1, 0, none⟩ (.int .i64 q))) := kset (Kept.refl _ _)
  have hO : (w2.setCell ⟨R + 1 + 1, 0, none⟩ (.int .i64 q)).heap[R + 1]? = some (.cells zRes 83 (0, 0)) := ((Below.heap_setCell _ _ _ _ (by show R + 1 ≠ R + 1 + 1; omega)).trans D2.out.out)
  have hS0 : (w2.setCell ⟨R + 1 + 1, 0, none⟩ (.int .i64 q)).heap[R + 1 + 1]? = some (.cells #[.int .i64 q, .int .i64 0, .string ⟨#[]⟩, .int .i64 0, .int .i64 0, .int .i64 0, .string ⟨#[]⟩] 83 (0, 0)) := heap_setCell_same D2.out.res 0 _
  clear c1 c4 q0 f0
  generalize (w2.setCell ⟨R + 1 + 1, 0, none⟩ (.int .i64 q)) = W2 at *
  have s0 : W2.cell? ⟨R + 1 + 1, 0, none⟩ = some (.int .i64 q) := cell_of_heap hS0 0
  have s1 : W2.cell? ⟨R + 1 + 1, 1, none⟩ = some (.int .i64 0) := cell_of_heap hS0 1
  have s2 : W2.cell? ⟨R + 1 + 1, 2, none⟩ = some (.string ⟨#[]⟩) := cell_of_heap hS0 2
  have s3 : W2.cell? ⟨R + 1 + 1, 3, none⟩ = some (.int .i64 0) := cell_of_heap hS0 3
  have s4 : W2.cell? ⟨R + 1 + 1, 4, none⟩ = some (.int .i64 0) := cell_of_heap hS0 4
  have s5 : W2.cell? ⟨R + 1 + 1, 5, none⟩ = some (.int .i64 0) := cell_of_heap hS0 5
  have s6 : W2.cell? ⟨R + 1 + 1, 6, none⟩ = some (.string ⟨#[]⟩) := cell_of_heap hS0 6
  have t0 : W2.cell? ⟨R + 1, 0, none⟩ = some (.int .i64 0) := cell_of_heap hO 0
  have t1 : W2.cell? ⟨R + 1, 1, none⟩ = some (.int .i64 0) := cell_of_heap hO 1
  have t2 : W2.cell? ⟨R + 1, 2, none⟩ = some (.string ⟨#[]⟩) := cell_of_heap hO 2
  have t3 : W2.cell? ⟨R + 1, 3, none⟩ = some (.int .i64 0) := cell_of_heap hO 3
  have t4 : W2.cell? ⟨R + 1, 4, none⟩ = some (.int .i64 0) := cell_of_heap hO 4
  have t5 : W2.cell? ⟨R + 1, 5, none⟩ = some (.int .i64 0) := cell_of_heap hO 5
  have t6 : W2.cell? ⟨R + 1, 6, none⟩ = some (.string ⟨#[]⟩) := cell_of_heap hO 6
  have hf : ∀ i, W2.frozen? ⟨R + 1, i, none⟩ = false := fun i => frozen_of_heap hO i
  have HO := Lib.hid hO; clear hO hS0
  go_wp2
  have yy := set7_cell HO.out (.int .i64 q) (.int .i64 0) (.string ⟨#[]⟩) (.int .i64 0) (.int .i64 0) (.int .i64 0) (.string ⟨#[]⟩)
  have y0 := yy 0
  have y1 := yy 1
  have y2 := yy 2
  have y3 := yy 3
  have y4 := yy 4
  have y5 := yy 5
  have y6 := yy 6
  dsimp at y0 y1 y2 y3 y4 y5 y6
  refine bodyPost_ret (v := .agg #[.int .i64 q, .int .i64 0, .string ⟨#[]⟩, .int .i64 0, .int .i64 0, .int .i64 0, .string ⟨#[]⟩]) (by simp [results, Tryz.results38, go_sem, y0, y1, y2, y3, y4, y5, y6]) rfl ?_
  exact dov_end (r := ⟨q, 0, ⟨#[]⟩, zeroP⟩) D2.out Hg.out HK.out _ _ _ _ _ _ _ rfl

end Go.Proofs.YtemmeopaihmlcaaGreatDoor

namespace Go.Proofs.YtemmeopaihmlcaaGreatDoor
open Go.RowKit
attribute [local go_sem ↓] Go.wp_at_zero Go.wp_at_succ

set_option maxRecDepth 100000 in
set_option maxHeartbeats 1600000 in
theorem dv_read (w0 w : World) (b M : Nat) (V V' : AV) (G : Nat → Prop) (kd : Nat) (e n : Int) (s : ByteArray) (x : Bool) (hk : kd % 8 = 1 ∨ kd % 8 = 2) (hkd : kd ≤ 255) (sp : QM w0 w b M V G) (hN : PReady V oneM 2) (hn : n ≤ 9223372036854775807) (q : Nat) (hst : pChange (opRead n) V oneM 2 e = (V', q)) (y : ByteArray) (hy : pReadB n V oneM 2 e = y) :
    Calls Tryz.prog 38 #[.pointer (some ⟨b, 0, none⟩), .agg #[.int .u8 kd, .int .i64 e, .int .i64 n, .string s, .bool x]] w (QMP w0 b M V' G w (resV ⟨q, 0, y, zeroP⟩)) := by
  have D0 := Lib.hid (dov_start (opc := #[.int .u8 kd, .int .i64 e, .int .i64 n, .string s, .bool x]) sp)
  have Hg := Lib.hid (qguard_new sp)
  clear sp
  have HN := Lib.hid hN; clear hN
  have Hst := Lib.hid hst; clear hst
  have Hy := Lib.hid hy; clear hy
  have hlt : kd < 256 := by omega
  have hways : (kd : Int) % 8 = 1 ∨ (kd : Int) % 8 = 2 := by omega
  rcases hways with hk' | hk'
  all_goals
    go_enter Tryz.func38, Tryz.ntmps38
    go_wp2_with fail
    unfold zRes at D0
    generalize hR : w.heap.size = R at *
    generalize ((w.alloc (.cells #[.int .u8 kd, .int .i64 e, .int .i64 n, .string s, .bool x] 81)).alloc (.cells #[.int .i64 0, .int .i64 0, .string ⟨#[]⟩, .int .i64 0, .int .i64 0, .int .i64 0, .string ⟨#[]⟩] 83)).alloc (.cells #[.int .i64 0, .int .i64 0, .string ⟨#[]⟩, .int .i64 0, .int .i64 0, .int .i64 0, .string ⟨#[]⟩] 83) = W at *
    have hi1 : Hid ((#[.int .u8 kd, .int .i64 e, .int .i64 n, .string s, .bool x] : Array Value)[1]? = some (.int .i64 e)) := rfl
    have hi2 : Hid ((#[.int .u8 kd, .int .i64 e, .int .i64 n, .string s, .bool x] : Array Value)[2]? = some (.int .i64 n)) := rfl
    have c1 : W.cell? ⟨R, 1, none⟩ = some (.int .i64 e) := cell_of_heap D0.out.op 1
    have c2 : W.cell? ⟨R, 2, none⟩ = some (.int .i64 n) := cell_of_heap D0.out.op 2
    have Dd := Lib.hid D0.out.drew
    clear D0
    go_region_held3 (fun w' => w'.cell? ⟨R, 1, none⟩ = some (.int .i64 e) ∧ w'.cell? ⟨R, 2, none⟩ = some (.int .i64 n)) (first | with_reducible exact ⟨c1, c2⟩ | with_reducible exact ⟨qop_cell D1.out (Kept.refl _ _) hi1.out, qop_cell D1.out (Kept.refl _ _) hi2.out⟩ | with_reducible exact ⟨qop_cell D2.out (Kept.refl _ _) hi1.out, qop_cell D2.out (Kept.refl _ _) hi2.out⟩ | with_reducible exact ⟨qop_cell D2.out (kset (Kept.refl _ _)) hi1.out, qop_cell D2.out (kset (Kept.refl _ _)) hi2.out⟩ | with_reducible exact ⟨qop_cell D2.out (kset (kset (Kept.refl _ _))) hi1.out, qop_cell D2.out (kset (kset (Kept.refl _ _))) hi2.out⟩ | go_keep)
      (first
        | (go_at_call 28; refine (one_any _).mono ?_; rintro r w1 ⟨rfl, hb1⟩; have D1 := Lib.hid (Dd.out.later hb1); clear hb1)
        | (go_at_call 32; refine (qmRead' D1.out.sp HN.out hn Hst.out Hy.out).mono ?_; rintro r w2 ⟨rfl, s2, hk2⟩; have D2 := Lib.hid (D1.out.step s2 hk2); clear s2 hk2; have q0 := cell_of_heap D2.out.res 0; have f0 : w2.frozen? ⟨R + 1 + 1, 0, none⟩ = false := frozen_of_heap D2.out.res 0; dsimp [zRes] at q0; have q2 := cell_of_heap D2.out.res 2; have f2 : w2.frozen? ⟨R + 1 + 1, 2, none⟩ = false := frozen_of_heap D2.out.res 2; dsimp [zRes] at q2)
        | fail)
    have HK : Hid (Kept (fun k => k = R + 1 ∨ k = R + 1 + 1) w2 ((w2.setCell ⟨R + 1 + 1, 2, none⟩ (.string y)).setCell ⟨R + 1 + 1, 0, none⟩ (.int .i64 q))) := kset (kset (Kept.refl _ _))
    have hO : ((w2.setCell ⟨R + 1 + 1, 2, none⟩ (.string y)).setCell ⟨R + 1 + 1, 0, none⟩ (.int .i64 q)).heap[R + 1]? = some (.cells zRes 83 (0, 0)) := ((Below.heap_setCell _ _ _ _ (by show R + 1 ≠ R + 1 + 1; omega)).trans ((Below.heap_setCell _ _ _ _ (by show R + 1 ≠ R + 1 + 1; omega)).trans D2.out.out))
    have hS0 : (w2.setCell ⟨R + 1 + 1, 2, none⟩ (.string y)).heap[R + 1 + 1]? = some (.cells #[.int .i64 0, .int .i64 0, .string y, .int .i64 0, .int .i64 0, .int .i64 0, .string ⟨#[]⟩] 83 (0, 0)) := heap_setCell_same D2.out.res 2 _
    have hS1 : ((w2.setCell ⟨R + 1 + 1, 2, none⟩ (.string y)).setCell ⟨R + 1 + 1, 0, none⟩ (.int .i64 q)).heap[R + 1 + 1]? = some (.cells #[.int .i64 q, .int .i64 0, .string y, .int .i64 0, .int .i64 0, .int .i64 0, .string ⟨#[]⟩] 83 (0, 0)) := heap_setCell_same hS0 0 _
    clear c1 c2 q0 f0 q2 f2
    clear hS0
    generalize ((w2.setCell ⟨R + 1 + 1, 2, none⟩ (.string y)).setCell ⟨R + 1 + 1, 0, none⟩ (.int .i64 q)) = W2 at *
    have s0 : W2.cell? ⟨R + 1 + 1, 0, none⟩ = some (.int .i64 q) := cell_of_heap hS1 0
    have s1 : W2.cell? ⟨R + 1 + 1, 1, none⟩ = some (.int .i64 0) := cell_of_heap hS1 1
    have s2 : W2.cell? ⟨R + 1 + 1, 2, none⟩ = some (.string y) := cell_of_heap hS1 2
    have s3 : W2.cell? ⟨R + 1 + 1, 3, none⟩ = some (.int .i64 0) := cell_of_heap hS1 3
    have s4 : W2.cell? ⟨R + 1 + 1, 4, none⟩ = some (.int .i64 0) := cell_of_heap hS1 4
    have s5 : W2.cell? ⟨R + 1 + 1, 5, none⟩ = some (.int .i64 0) := cell_of_heap hS1 5
    have s6 : W2.cell? ⟨R + 1 + 1, 6, none⟩ = some (.string ⟨#[]⟩) := cell_of_heap hS1 6
    have t0 : W2.cell? ⟨R + 1, 0, none⟩ = some (.int .i64 0) := cell_of_heap hO 0
    have t1 : W2.cell? ⟨R + 1, 1, none⟩ = some (.int .i64 0) := cell_of_heap hO 1
    have t2 : W2.cell? ⟨R + 1, 2, none⟩ = some (.string ⟨#[]⟩) := cell_of_heap hO 2
    have t3 : W2.cell? ⟨R + 1, 3, none⟩ = some (.int .i64 0) := cell_of_heap hO 3
    have t4 : W2.cell? ⟨R + 1, 4, none⟩ = some (.int .i64 0) := cell_of_heap hO 4
    have t5 : W2.cell? ⟨R + 1, 5, none⟩ = some (.int .i64 0) := cell_of_heap hO 5
    have t6 : W2.cell? ⟨R + 1, 6, none⟩ = some (.string ⟨#[]⟩) := cell_of_heap hO 6
    have hf : ∀ i, W2.frozen? ⟨R + 1, i, none⟩ = false := fun i => frozen_of_heap hO i
    have HO := Lib.hid hO; clear hO hS1
    go_wp2
    have yy := set7_cell HO.out (.int .i64 q) (.int .i64 0) (.string y) (.int .i64 0) (.int .i64 0) (.int .i64 0) (.string ⟨#[]⟩)
    have y0 := yy 0
    have y1 := yy 1
    have y2 := yy 2
    have y3 := yy 3
    have y4 := yy 4
    have y5 := yy 5
    have y6 := yy 6
    dsimp at y0 y1 y2 y3 y4 y5 y6
    refine bodyPost_ret (v := .agg #[.int .i64 q, .int .i64 0, .string y, .int .i64 0, .int .i64 0, .int .i64 0, .string ⟨#[]⟩]) (by simp [results, Tryz.results38, go_sem, y0, y1, y2, y3, y4, y5, y6]) rfl ?_
    exact dov_end (r := ⟨q, 0, y, zeroP⟩) D2.out Hg.out HK.out _ _ _ _ _ _ _ rfl

set_option maxRecDepth 100000 in
set_option maxHeartbeats 1600000 in
theorem dv_get (w0 w : World) (b M : Nat) (V V' : AV) (G : Nat → Prop) (kd : Nat) (e n : Int) (s : ByteArray) (x : Bool) (hk : kd % 8 = 7) (hkd : kd ≤ 255) (sp : QM w0 w b M V G) (hN : PReady V oneM 2) (ep re wr : Int) (by_ : ByteArray) (q : Nat) (hst : pGet V oneM 2 e = (⟨ep, re, wr, by_⟩, q)) (hse : pSeen V oneM 2 e = V') :
    Calls Tryz.prog 38 #[.pointer (some ⟨b, 0, none⟩), .agg #[.int .u8 kd, .int .i64 e, .int .i64 n, .string s, .bool x]] w (QMP w0 b M V' G w (resV ⟨q, 0, ⟨#[]⟩, ⟨ep, re, wr, by_⟩⟩)) := by
  have D0 := Lib.hid (dov_start (opc := #[.int .u8 kd, .int .i64 e, .int .i64 n, .string s, .bool x]) sp)
  have Hg := Lib.hid (qguard_new sp)
  clear sp
  have HN := Lib.hid hN; clear hN
  have Hst := Lib.hid hst; clear hst
  have Hse := Lib.hid hse; clear hse
  have hlt : kd < 256 := by omega
  have hk' : (kd : Int) % 8 = 7 := by omega
  go_enter Tryz.func38, Tryz.ntmps38
  go_wp2_with fail
  unfold zRes at D0
  generalize hR : w.heap.size = R at *
  generalize ((w.alloc (.cells #[.int .u8 kd, .int .i64 e, .int .i64 n, .string s, .bool x] 81)).alloc (.cells #[.int .i64 0, .int .i64 0, .string ⟨#[]⟩, .int .i64 0, .int .i64 0, .int .i64 0, .string ⟨#[]⟩] 83)).alloc (.cells #[.int .i64 0, .int .i64 0, .string ⟨#[]⟩, .int .i64 0, .int .i64 0, .int .i64 0, .string ⟨#[]⟩] 83) = W at *
  have hi1 : Hid ((#[.int .u8 kd, .int .i64 e, .int .i64 n, .string s, .bool x] : Array Value)[1]? = some (.int .i64 e)) := rfl
  have c1 : W.cell? ⟨R, 1, none⟩ = some (.int .i64 e) := cell_of_heap D0.out.op 1
  have Dd := Lib.hid D0.out.drew
  clear D0
  go_region_held3 (fun w' => w'.cell? ⟨R, 1, none⟩ = some (.int .i64 e)) (first | with_reducible exact c1 | with_reducible exact qop_cell D1.out (Kept.refl _ _) hi1.out | with_reducible exact qop_cell D2.out (Kept.refl _ _) hi1.out | with_reducible exact qop_cell D2.out (kset (Kept.refl _ _)) hi1.out | with_reducible exact qop_cell D2.out (kset (kset (Kept.refl _ _))) hi1.out | with_reducible exact qop_cell D2.out (kset (kset (kset (Kept.refl _ _)))) hi1.out | with_reducible exact qop_cell D2.out (kset (kset (kset (kset (Kept.refl _ _))))) hi1.out | with_reducible exact qop_cell D2.out (kset (kset (kset (kset (kset (Kept.refl _ _)))))) hi1.out | go_keep)
    (first
      | (go_at_call 28; refine (one_any _).mono ?_; rintro r w1 ⟨rfl, hb1⟩; have D1 := Lib.hid (Dd.out.later hb1); clear hb1)
      | (go_at_call 30; refine (qmGet' D1.out.sp HN.out Hst.out Hse.out).mono ?_; rintro r w2 ⟨rfl, s2, hk2⟩; have D2 := Lib.hid (D1.out.step s2 hk2); clear s2 hk2; have q0 := cell_of_heap D2.out.res 0; have f0 : w2.frozen? ⟨R + 1 + 1, 0, none⟩ = false := frozen_of_heap D2.out.res 0; dsimp [zRes] at q0; have q3 := cell_of_heap D2.out.res 3; have f3 : w2.frozen? ⟨R + 1 + 1, 3, none⟩ = false := frozen_of_heap D2.out.res 3; dsimp [zRes] at q3; have q4 := cell_of_heap D2.out.res 4; have f4 : w2.frozen? ⟨R + 1 + 1, 4, none⟩ = false := frozen_of_heap D2.out.res 4; dsimp [zRes] at q4; have q5 := cell_of_heap D2.out.res 5; have f5 : w2.frozen? ⟨R + 1 + 1, 5, none⟩ = false := frozen_of_heap D2.out.res 5; dsimp [zRes] at q5; have q6 := cell_of_heap D2.out.res 6; have f6 : w2.frozen? ⟨R + 1 + 1, 6, none⟩ = false := frozen_of_heap D2.out.res 6; dsimp [zRes] at q6)
      | fail)
  have HK : Hid (Kept (fun k => k = R + 1 ∨ k = R + 1 + 1) w2 (((((w2.setCell ⟨R + 1 + 1, 3, none⟩ (.int .i64 ep)).setCell ⟨R + 1 + 1, 4, none⟩ (.int .i64 re)).setCell ⟨R + 1 + 1, 5, none⟩ (.int .i64 wr)).setCell ⟨R + 1 + 1, 6, none⟩ (.string by_)).setCell ⟨R + 1 + 1, 0, none⟩ (.int .i64 q))) := kset (kset (kset (kset (kset (Kept.refl _ _)))))
  have hO : (((((w2.setCell ⟨R + 1 + 1, 3, none⟩ (.int .i64 ep)).setCell ⟨R + 1 + 1, 4, none⟩ (.int .i64 re)).setCell ⟨R + 1 + 1, 5, none⟩ (.int .i64 wr)).setCell ⟨R + 1 + 1, 6, none⟩ (.string by_)).setCell ⟨R + 1 + 1, 0, none⟩ (.int .i64 q)).heap[R + 1]? = some (.cells zRes 83 (0, 0)) := ((Below.heap_setCell _ _ _ _ (by show R + 1 ≠ R + 1 + 1; omega)).trans ((Below.heap_setCell _ _ _ _ (by show R + 1 ≠ R + 1 + 1; omega)).trans ((Below.heap_setCell _ _ _ _ (by show R + 1 ≠ R + 1 + 1; omega)).trans ((Below.heap_setCell _ _ _ _ (by show R + 1 ≠ R + 1 + 1; omega)).trans ((Below.heap_setCell _ _ _ _ (by show R + 1 ≠ R + 1 + 1; omega)).trans D2.out.out)))))
  have hS0 : (w2.setCell ⟨R + 1 + 1, 3, none⟩ (.int .i64 ep)).heap[R + 1 + 1]? = some (.cells #[.int .i64 0, .int .i64 0, .string ⟨#[]⟩, .int .i64 ep, .int .i64 0, .int .i64 0, .string ⟨#[]⟩] 83 (0, 0)) := heap_setCell_same D2.out.res 3 _
  have hS1 : ((w2.setCell ⟨R + 1 + 1, 3, none⟩ (.int .i64 ep)).setCell ⟨R + 1 + 1, 4, none⟩ (.int .i64 re)).heap[R + 1 + 1]? = some (.cells #[.int .i64 0, .int .i64 0, .string ⟨#[]⟩, .int .i64 ep, .int .i64 re, .int .i64 0, .string ⟨#[]⟩] 83 (0, 0)) := heap_setCell_same hS0 4 _
  have hS2 : (((w2.setCell ⟨R + 1 + 1, 3, none⟩ (.int .i64 ep)).setCell ⟨R + 1 + 1, 4, none⟩ (.int .i64 re)).setCell ⟨R + 1 + 1, 5, none⟩ (.int .i64 wr)).heap[R + 1 + 1]? = some (.cells #[.int .i64 0, .int .i64 0, .string ⟨#[]⟩, .int .i64 ep, .int .i64 re, .int .i64 wr, .string ⟨#[]⟩] 83 (0, 0)) := heap_setCell_same hS1 5 _
  have hS3 : ((((w2.setCell ⟨R + 1 + 1, 3, none⟩ (.int .i64 ep)).setCell ⟨R + 1 + 1, 4, none⟩ (.int .i64 re)).setCell ⟨R + 1 + 1, 5, none⟩ (.int .i64 wr)).setCell ⟨R + 1 + 1, 6, none⟩ (.string by_)).heap[R + 1 + 1]? = some (.cells #[.int .i64 0, .int .i64 0, .string ⟨#[]⟩, .int .i64 ep, .int .i64 re, .int .i64 wr, .string by_] 83 (0, 0)) := heap_setCell_same hS2 6 _
  have hS4 : (((((w2.setCell ⟨R + 1 + 1, 3, none⟩ (.int .i64 ep)).setCell ⟨R + 1 + 1, 4, none⟩ (.int .i64 re)).setCell ⟨R + 1 + 1, 5, none⟩ (.int .i64 wr)).setCell ⟨R + 1 + 1, 6, none⟩ (.string by_)).setCell ⟨R + 1 + 1, 0, none⟩ (.int .i64 q)).heap[R + 1 + 1]? = some (.cells #[.int .i64 q, .int .i64 0, .string ⟨#[]⟩, .int .i64 ep, .int .i64 re, .int .i64 wr, .string by_] 83 (0, 0)) := heap_setCell_same hS3 0 _
  clear c1 q0 f0 q3 f3 q4 f4 q5 f5 q6 f6
  clear hS0 hS1 hS2 hS3
  generalize (((((w2.setCell ⟨R + 1 + 1, 3, none⟩ (.int .i64 ep)).setCell ⟨R + 1 + 1, 4, none⟩ (.int .i64 re)).setCell ⟨R + 1 + 1, 5, none⟩ (.int .i64 wr)).setCell ⟨R + 1 + 1, 6, none⟩ (.string by_)).setCell ⟨R + 1 + 1, 0, none⟩ (.int .i64 q)) = W2 at *
  have s0 : W2.cell? ⟨R + 1 + 1, 0, none⟩ = some (.int .i64 q) := cell_of_heap hS4 0
  have s1 : W2.cell? ⟨R + 1 + 1, 1, none⟩ = some (.int .i64 0) := cell_of_heap hS4 1
  have s2 : W2.cell? ⟨R + 1 + 1, 2, none⟩ = some (.string ⟨#[]⟩) := cell_of_heap hS4 2
  have s3 : W2.cell? ⟨R + 1 + 1, 3, none⟩ = some (.int .i64 ep) := cell_of_heap hS4 3
  have s4 : W2.cell? ⟨R + 1 + 1, 4, none⟩ = some (.int .i64 re) := cell_of_heap hS4 4
  have s5 : W2.cell? ⟨R + 1 + 1, 5, none⟩ = some (.int .i64 wr) := cell_of_heap hS4 5
  have s6 : W2.cell? ⟨R + 1 + 1, 6, none⟩ = some (.string by_) := cell_of_heap hS4 6
  have t0 : W2.cell? ⟨R + 1, 0, none⟩ = some (.int .i64 0) := cell_of_heap hO 0
  have t1 : W2.cell? ⟨R + 1, 1, none⟩ = some (.int .i64 0) := cell_of_heap hO 1
  have t2 : W2.cell? ⟨R + 1, 2, none⟩ = some (.string ⟨#[]⟩) := cell_of_heap hO 2
  have t3 : W2.cell? ⟨R + 1, 3, none⟩ = some (.int .i64 0) := cell_of_heap hO 3
  have t4 : W2.cell? ⟨R + 1, 4, none⟩ = some (.int .i64 0) := cell_of_heap hO 4
  have t5 : W2.cell? ⟨R + 1, 5, none⟩ = some (.int .i64 0) := cell_of_heap hO 5
  have t6 : W2.cell? ⟨R + 1, 6, none⟩ = some (.string ⟨#[]⟩) := cell_of_heap hO 6
  have hf : ∀ i, W2.frozen? ⟨R + 1, i, none⟩ = false := fun i => frozen_of_heap hO i
  have HO := Lib.hid hO; clear hO hS4
  go_wp2
  have yy := set7_cell HO.out (.int .i64 q) (.int .i64 0) (.string ⟨#[]⟩) (.int .i64 ep) (.int .i64 re) (.int .i64 wr) (.string by_)
  have y0 := yy 0
  have y1 := yy 1
  have y2 := yy 2
  have y3 := yy 3
  have y4 := yy 4
  have y5 := yy 5
  have y6 := yy 6
  dsimp at y0 y1 y2 y3 y4 y5 y6
  refine bodyPost_ret (v := .agg #[.int .i64 q, .int .i64 0, .string ⟨#[]⟩, .int .i64 ep, .int .i64 re, .int .i64 wr, .string by_]) (by simp [results, Tryz.results38, go_sem, y0, y1, y2, y3, y4, y5, y6]) rfl ?_
  exact dov_end (r := ⟨q, 0, ⟨#[]⟩, ⟨ep, re, wr, by_⟩⟩) D2.out Hg.out HK.out _ _ _ _ _ _ _ rfl

end Go.Proofs.YtemmeopaihmlcaaGreatDoor

namespace Go.Proofs.YtemmeopaihmlcaaGreatDoor
open Go.RowKit
attribute [local go_sem ↓] Go.wp_at_zero Go.wp_at_succ

set_option maxRecDepth 100000 in
set_option maxHeartbeats 1600000 in
theorem dv_write (w0 w : World) (b M : Nat) (V V' : AV) (G : Nat → Prop) (kd : Nat) (e n : Int) (s : ByteArray) (x : Bool) (hk : kd % 8 = 3 ∨ kd % 8 = 4) (hkd : kd ≤ 255) (sp : QM w0 w b M V G) (hN : PReady V oneM 2) (hs : s.size ≤ 9223372036854775807) (q : Nat) (hst : pChange (opWrite s) V oneM 2 e = (V', q)) (m : Nat) (hy : pWriteN s V oneM 2 e = m) (hz : ¬ 600 < s.size) :
    Calls Tryz.prog 38 #[.pointer (some ⟨b, 0, none⟩), .agg #[.int .u8 kd, .int .i64 e, .int .i64 n, .string s, .bool x]] w (QMP w0 b M V' G w (resV ⟨q, m, ⟨#[]⟩, zeroP⟩)) := by
  have D0 := Lib.hid (dov_start (opc := #[.int .u8 kd, .int .i64 e, .int .i64 n, .string s, .bool x]) sp)
  have Hg := Lib.hid (qguard_new sp)
  clear sp
  have HN := Lib.hid hN; clear hN
  have Hst := Lib.hid hst; clear hst
  have Hy := Lib.hid hy; clear hy
  have hz1 : ¬ (600 : Int) < (s.size : Int) := by omega
  have hmin : (if (600 : Int) < (s.size : Int) then (600 : Int) else (s.size : Int)) = (s.size : Int) := if_neg hz1
  have hz0 : (0 : Int) ≤ (s.size : Int) := by omega
  have hz2 : (s.size : Int) ≤ (s.size : Int) := by omega
  have hlt : kd < 256 := by omega
  have hways : (kd : Int) % 8 = 3 ∨ (kd : Int) % 8 = 4 := by omega
  rcases hways with hk' | hk'
  all_goals
    go_enter Tryz.func38, Tryz.ntmps38
    go_wp2_with fail
    unfold zRes at D0
    generalize hR : w.heap.size = R at *
    generalize ((w.alloc (.cells #[.int .u8 kd, .int .i64 e, .int .i64 n, .string s, .bool x] 81)).alloc (.cells #[.int .i64 0, .int .i64 0, .string ⟨#[]⟩, .int .i64 0, .int .i64 0, .int .i64 0, .string ⟨#[]⟩] 83)).alloc (.cells #[.int .i64 0, .int .i64 0, .string ⟨#[]⟩, .int .i64 0, .int .i64 0, .int .i64 0, .string ⟨#[]⟩] 83) = W at *
    have hi1 : Hid ((#[.int .u8 kd, .int .i64 e, .int .i64 n, .string s, .bool x] : Array Value)[1]? = some (.int .i64 e)) := rfl
    have hi3 : Hid ((#[.int .u8 kd, .int .i64 e, .int .i64 n, .string s, .bool x] : Array Value)[3]? = some (.string s)) := rfl
    have c1 : W.cell? ⟨R, 1, none⟩ = some (.int .i64 e) := cell_of_heap D0.out.op 1
    have c3 : W.cell? ⟨R, 3, none⟩ = some (.string s) := cell_of_heap D0.out.op 3
    have Dd := Lib.hid D0.out.drew
    clear D0
    go_region_held3 (fun w' => w'.cell? ⟨R, 1, none⟩ = some (.int .i64 e) ∧ w'.cell? ⟨R, 3, none⟩ = some (.string s)) (first | with_reducible exact ⟨c1, c3⟩ | with_reducible exact ⟨qop_cell D1.out (Kept.refl _ _) hi1.out, qop_cell D1.out (Kept.refl _ _) hi3.out⟩ | with_reducible exact ⟨qop_cell D2.out (Kept.refl _ _) hi1.out, qop_cell D2.out (Kept.refl _ _) hi3.out⟩ | with_reducible exact ⟨qop_cell D2.out (kset (Kept.refl _ _)) hi1.out, qop_cell D2.out (kset (Kept.refl _ _)) hi3.out⟩ | with_reducible exact ⟨qop_cell D2.out (kset (kset (Kept.refl _ _))) hi1.out, qop_cell D2.out (kset (kset (Kept.refl _ _))) hi3.out⟩ | go_keep)
      (first
        | (go_at_call 28; refine (one_any _).mono ?_; rintro r w1 ⟨rfl, hb1⟩; have D1 := Lib.hid (Dd.out.later hb1); clear hb1)
        | (go_at_call 34; refine (qmWrite' D1.out.sp HN.out hs Hst.out Hy.out).mono ?_; rintro r w2 ⟨rfl, s2, hk2⟩; have D2 := Lib.hid (D1.out.step s2 hk2); clear s2 hk2; have q0 := cell_of_heap D2.out.res 0; have f0 : w2.frozen? ⟨R + 1 + 1, 0, none⟩ = false := frozen_of_heap D2.out.res 0; dsimp [zRes] at q0; have q1 := cell_of_heap D2.out.res 1; have f1 : w2.frozen? ⟨R + 1 + 1, 1, none⟩ = false := frozen_of_heap D2.out.res 1; dsimp [zRes] at q1)
        | fail)
    all_goals
      have HK : Hid (Kept (fun k => k = R + 1 ∨ k = R + 1 + 1) w2 ((w2.setCell ⟨R + 1 + 1, 1, none⟩ (.int .i64 m)).setCell ⟨R + 1 + 1, 0, none⟩ (.int .i64 q))) := kset (kset (Kept.refl _ _))
      have hO : ((w2.setCell ⟨R + 1 + 1, 1, none⟩ (.int .i64 m)).setCell ⟨R + 1 + 1, 0, none⟩ (.int .i64 q)).heap[R + 1]? = some (.cells zRes 83 (0, 0)) := ((Below.heap_setCell _ _ _ _ (by show R + 1 ≠ R + 1 + 1; omega)).trans ((Below.heap_setCell _ _ _ _ (by show R + 1 ≠ R + 1 + 1; omega)).trans D2.out.out))
      have hS0 : (w2.setCell ⟨R + 1 + 1, 1, none⟩ (.int .i64 m)).heap[R + 1 + 1]? = some (.cells #[.int .i64 0, .int .i64 m, .string ⟨#[]⟩, .int .i64 0, .int .i64 0, .int .i64 0, .string ⟨#[]⟩] 83 (0, 0)) := heap_setCell_same D2.out.res 1 _
      have hS1 : ((w2.setCell ⟨R + 1 + 1, 1, none⟩ (.int .i64 m)).setCell ⟨R + 1 + 1, 0, none⟩ (.int .i64 q)).heap[R + 1 + 1]? = some (.cells #[.int .i64 q, .int .i64 m, .string ⟨#[]⟩, .int .i64 0, .int .i64 0, .int .i64 0, .string ⟨#[]⟩] 83 (0, 0)) := heap_setCell_same hS0 0 _
      clear c1 c3 q0 f0 q1 f1
      clear hS0
      generalize ((w2.setCell ⟨R + 1 + 1, 1, none⟩ (.int .i64 m)).setCell ⟨R + 1 + 1, 0, none⟩ (.int .i64 q)) = W2 at *
      have s0 : W2.cell? ⟨R + 1 + 1, 0, none⟩ = some (.int .i64 q) := cell_of_heap hS1 0
      have s1 : W2.cell? ⟨R + 1 + 1, 1, none⟩ = some (.int .i64 m) := cell_of_heap hS1 1
      have s2 : W2.cell? ⟨R + 1 + 1, 2, none⟩ = some (.string ⟨#[]⟩) := cell_of_heap hS1 2
      have s3 : W2.cell? ⟨R + 1 + 1, 3, none⟩ = some (.int .i64 0) := cell_of_heap hS1 3
      have s4 : W2.cell? ⟨R + 1 + 1, 4, none⟩ = some (.int .i64 0) := cell_of_heap hS1 4
      have s5 : W2.cell? ⟨R + 1 + 1, 5, none⟩ = some (.int .i64 0) := cell_of_heap hS1 5
      have s6 : W2.cell? ⟨R + 1 + 1, 6, none⟩ = some (.string ⟨#[]⟩) := cell_of_heap hS1 6
      have t0 : W2.cell? ⟨R + 1, 0, none⟩ = some (.int .i64 0) := cell_of_heap hO 0
      have t1 : W2.cell? ⟨R + 1, 1, none⟩ = some (.int .i64 0) := cell_of_heap hO 1
      have t2 : W2.cell? ⟨R + 1, 2, none⟩ = some (.string ⟨#[]⟩) := cell_of_heap hO 2
      have t3 : W2.cell? ⟨R + 1, 3, none⟩ = some (.int .i64 0) := cell_of_heap hO 3
      have t4 : W2.cell? ⟨R + 1, 4, none⟩ = some (.int .i64 0) := cell_of_heap hO 4
      have t5 : W2.cell? ⟨R + 1, 5, none⟩ = some (.int .i64 0) := cell_of_heap hO 5
      have t6 : W2.cell? ⟨R + 1, 6, none⟩ = some (.string ⟨#[]⟩) := cell_of_heap hO 6
      have hf : ∀ i, W2.frozen? ⟨R + 1, i, none⟩ = false := fun i => frozen_of_heap hO i
      have HO := Lib.hid hO; clear hO hS1
      go_wp2
      have yy := set7_cell HO.out (.int .i64 q) (.int .i64 m) (.string ⟨#[]⟩) (.int .i64 0) (.int .i64 0) (.int .i64 0) (.string ⟨#[]⟩)
      have y0 := yy 0
      have y1 := yy 1
      have y2 := yy 2
      have y3 := yy 3
      have y4 := yy 4
      have y5 := yy 5
      have y6 := yy 6
      dsimp at y0 y1 y2 y3 y4 y5 y6
      refine bodyPost_ret (v := .agg #[.int .i64 q, .int .i64 m, .string ⟨#[]⟩, .int .i64 0, .int .i64 0, .int .i64 0, .string ⟨#[]⟩]) (by simp [results, Tryz.results38, go_sem, y0, y1, y2, y3, y4, y5, y6]) rfl ?_
      exact dov_end (r := ⟨q, m, ⟨#[]⟩, zeroP⟩) D2.out Hg.out HK.out _ _ _ _ _ _ _ rfl

set_option maxRecDepth 100000 in
set_option maxHeartbeats 1600000 in
theorem dv_write2 (w0 w : World) (b M : Nat) (V V' : AV) (G : Nat → Prop) (kd : Nat) (e n : Int) (s : ByteArray) (x : Bool) (hk : kd % 8 = 3 ∨ kd % 8 = 4) (hkd : kd ≤ 255) (sp : QM w0 w b M V G) (hN : PReady V oneM 2) (hs : s.size ≤ 9223372036854775807) (q : Nat) (hst : pChange (opWrite (s.extract 0 600)) V oneM 2 e = (V', q)) (m : Nat) (hy : pWriteN (s.extract 0 600) V oneM 2 e = m) (hz : 600 < s.size) :
    Calls Tryz.prog 38 #[.pointer (some ⟨b, 0, none⟩), .agg #[.int .u8 kd, .int .i64 e, .int .i64 n, .string s, .bool x]] w (QMP w0 b M V' G w (resV ⟨q, m, ⟨#[]⟩, zeroP⟩)) := by
  have D0 := Lib.hid (dov_start (opc := #[.int .u8 kd, .int .i64 e, .int .i64 n, .string s, .bool x]) sp)
  have Hg := Lib.hid (qguard_new sp)
  clear sp
  have HN := Lib.hid hN; clear hN
  have Hst := Lib.hid hst; clear hst
  have Hy := Lib.hid hy; clear hy
  have Hz2 : Hid ((s.extract 0 600).size ≤ 9223372036854775807) := by show _ ≤ _; rw [ByteArray.size_extract]; omega
  have hz1 : (600 : Int) < (s.size : Int) := by omega
  have hmin : (if (600 : Int) < (s.size : Int) then (600 : Int) else (s.size : Int)) = 600 := if_pos hz1
  have hz0 : (600 : Int) ≤ (s.size : Int) := by omega
  have hlt : kd < 256 := by omega
  have hways : (kd : Int) % 8 = 3 ∨ (kd : Int) % 8 = 4 := by omega
  rcases hways with hk' | hk'
  all_goals
    go_enter Tryz.func38, Tryz.ntmps38
    go_wp2_with fail
    unfold zRes at D0
    generalize hR : w.heap.size = R at *
    generalize ((w.alloc (.cells #[.int .u8 kd, .int .i64 e, .int .i64 n, .string s, .bool x] 81)).alloc (.cells #[.int .i64 0, .int .i64 0, .string ⟨#[]⟩, .int .i64 0, .int .i64 0, .int .i64 0, .string ⟨#[]⟩] 83)).alloc (.cells #[.int .i64 0, .int .i64 0, .string ⟨#[]⟩, .int .i64 0, .int .i64 0, .int .i64 0, .string ⟨#[]⟩] 83) = W at *
    have hi1 : Hid ((#[.int .u8 kd, .int .i64 e, .int .i64 n, .string s, .bool x] : Array Value)[1]? = some (.int .i64 e)) := rfl
    have hi3 : Hid ((#[.int .u8 kd, .int .i64 e, .int .i64 n, .string s, .bool x] : Array Value)[3]? = some (.string s)) := rfl
    have c1 : W.cell? ⟨R, 1, none⟩ = some (.int .i64 e) := cell_of_heap D0.out.op 1
    have c3 : W.cell? ⟨R, 3, none⟩ = some (.string s) := cell_of_heap D0.out.op 3
    have Dd := Lib.hid D0.out.drew
    clear D0
    go_region_held3 (fun w' => w'.cell? ⟨R, 1, none⟩ = some (.int .i64 e) ∧ w'.cell? ⟨R, 3, none⟩ = some (.string s)) (first | with_reducible exact ⟨c1, c3⟩ | with_reducible exact ⟨qop_cell D1.out (Kept.refl _ _) hi1.out, qop_cell D1.out (Kept.refl _ _) hi3.out⟩ | with_reducible exact ⟨qop_cell D2.out (Kept.refl _ _) hi1.out, qop_cell D2.out (Kept.refl _ _) hi3.out⟩ | with_reducible exact ⟨qop_cell D2.out (kset (Kept.refl _ _)) hi1.out, qop_cell D2.out (kset (Kept.refl _ _)) hi3.out⟩ | with_reducible exact ⟨qop_cell D2.out (kset (kset (Kept.refl _ _))) hi1.out, qop_cell D2.out (kset (kset (Kept.refl _ _))) hi3.out⟩ | go_keep)
      (first
        | (go_at_call 28; refine (one_any _).mono ?_; rintro r w1 ⟨rfl, hb1⟩; have D1 := Lib.hid (Dd.out.later hb1); clear hb1)
        | (go_at_call 34; refine (qmWrite' D1.out.sp HN.out Hz2.out Hst.out Hy.out).mono ?_; rintro r w2 ⟨rfl, s2, hk2⟩; have D2 := Lib.hid (D1.out.step s2 hk2); clear s2 hk2; have q0 := cell_of_heap D2.out.res 0; have f0 : w2.frozen? ⟨R + 1 + 1, 0, none⟩ = false := frozen_of_heap D2.out.res 0; dsimp [zRes] at q0; have q1 := cell_of_heap D2.out.res 1; have f1 : w2.frozen? ⟨R + 1 + 1, 1, none⟩ = false := frozen_of_heap D2.out.res 1; dsimp [zRes] at q1)
        | fail)
    all_goals
      have HK : Hid (Kept (fun k => k = R + 1 ∨ k = R + 1 + 1) w2 ((w2.setCell ⟨R + 1 + 1, 1, none⟩ (.int .i64 m)).setCell ⟨R + 1 + 1, 0, none⟩ (.int .i64 q))) := kset (kset (Kept.refl _ _))
      have hO : ((w2.setCell ⟨R + 1 + 1, 1, none⟩ (.int .i64 m)).setCell ⟨R + 1 + 1, 0, none⟩ (.int .i64 q)).heap[R + 1]? = some (.cells zRes 83 (0, 0)) := ((Below.heap_setCell _ _ _ _ (by show R + 1 ≠ R + 1 + 1; omega)).trans ((Below.heap_setCell _ _ _ _ (by show R + 1 ≠ R + 1 + 1; omega)).trans D2.out.out))
      have hS0 : (w2.setCell ⟨R + 1 + 1, 1, none⟩ (.int .i64 m)).heap[R + 1 + 1]? = some (.cells #[.int .i64 0, .int .i64 m, .string ⟨#[]⟩, .int .i64 0, .int .i64 0, .int .i64 0, .string ⟨#[]⟩] 83 (0, 0)) := heap_setCell_same D2.out.res 1 _
      have hS1 : ((w2.setCell ⟨R + 1 + 1, 1, none⟩ (.int .i64 m)).setCell ⟨R + 1 + 1, 0, none⟩ (.int .i64 q)).heap[R + 1 + 1]? = some (.cells #[.int .i64 q, .int .i64 m, .string ⟨#[]⟩, .int .i64 0, .int .i64 0, .int .i64 0, .string ⟨#[]⟩] 83 (0, 0)) := heap_setCell_same hS0 0 _
      clear c1 c3 q0 f0 q1 f1
      clear hS0
      generalize ((w2.setCell ⟨R + 1 + 1, 1, none⟩ (.int .i64 m)).setCell ⟨R + 1 + 1, 0, none⟩ (.int .i64 q)) = W2 at *
      have s0 : W2.cell? ⟨R + 1 + 1, 0, none⟩ = some (.int .i64 q) := cell_of_heap hS1 0
      have s1 : W2.cell? ⟨R + 1 + 1, 1, none⟩ = some (.int .i64 m) := cell_of_heap hS1 1
      have s2 : W2.cell? ⟨R + 1 + 1, 2, none⟩ = some (.string ⟨#[]⟩) := cell_of_heap hS1 2
      have s3 : W2.cell? ⟨R + 1 + 1, 3, none⟩ = some (.int .i64 0) := cell_of_heap hS1 3
      have s4 : W2.cell? ⟨R + 1 + 1, 4, none⟩ = some (.int .i64 0) := cell_of_heap hS1 4
      have s5 : W2.cell? ⟨R + 1 + 1, 5, none⟩ = some (.int .i64 0) := cell_of_heap hS1 5
      have s6 : W2.cell? ⟨R + 1 + 1, 6, none⟩ = some (.string ⟨#[]⟩) := cell_of_heap hS1 6
      have t0 : W2.cell? ⟨R + 1, 0, none⟩ = some (.int .i64 0) := cell_of_heap hO 0
      have t1 : W2.cell? ⟨R + 1, 1, none⟩ = some (.int .i64 0) := cell_of_heap hO 1
      have t2 : W2.cell? ⟨R + 1, 2, none⟩ = some (.string ⟨#[]⟩) := cell_of_heap hO 2
      have t3 : W2.cell? ⟨R + 1, 3, none⟩ = some (.int .i64 0) := cell_of_heap hO 3
      have t4 : W2.cell? ⟨R + 1, 4, none⟩ = some (.int .i64 0) := cell_of_heap hO 4
      have t5 : W2.cell? ⟨R + 1, 5, none⟩ = some (.int .i64 0) := cell_of_heap hO 5
      have t6 : W2.cell? ⟨R + 1, 6, none⟩ = some (.string ⟨#[]⟩) := cell_of_heap hO 6
      have hf : ∀ i, W2.frozen? ⟨R + 1, i, none⟩ = false := fun i => frozen_of_heap hO i
      have HO := Lib.hid hO; clear hO hS1
      go_wp2
      have yy := set7_cell HO.out (.int .i64 q) (.int .i64 m) (.string ⟨#[]⟩) (.int .i64 0) (.int .i64 0) (.int .i64 0) (.string ⟨#[]⟩)
      have y0 := yy 0
      have y1 := yy 1
      have y2 := yy 2
      have y3 := yy 3
      have y4 := yy 4
      have y5 := yy 5
      have y6 := yy 6
      dsimp at y0 y1 y2 y3 y4 y5 y6
      refine bodyPost_ret (v := .agg #[.int .i64 q, .int .i64 m, .string ⟨#[]⟩, .int .i64 0, .int .i64 0, .int .i64 0, .string ⟨#[]⟩]) (by simp [results, Tryz.results38, go_sem, y0, y1, y2, y3, y4, y5, y6]) rfl ?_
      exact dov_end (r := ⟨q, m, ⟨#[]⟩, zeroP⟩) D2.out Hg.out HK.out _ _ _ _ _ _ _ rfl

end Go.Proofs.YtemmeopaihmlcaaGreatDoor
