/- Law 32: do, the other kinds. -/
import Derived.Test.YtmknhokjpmjkkaaDoorPipN
namespace Go.Proofs.YtmknhokjpmjkkaaDoor
open Go.RowKit
attribute [local go_sem ↓] Go.wp_at_zero Go.wp_at_succ

section
variable {w0 w W W' : World} {b N R : Nat} {o : Option PipeT} {G : Nat → Prop} {opc : Array Value}
theorem op_kept (d : DoAt w0 w W b N o G R opc) (hk : Kept (fun k => k = R + 1 ∨ k = R + 1 + 1) W W') : W'.heap[R]? = some (.cells opc 94 (0, 0)) := (hk.block R (lt_of_heap d.op) (fun h => by rcases h with h | h <;> omega)).trans d.op
theorem op_cell {i : Nat} {v : Value} (d : DoAt w0 w W b N o G R opc) (hk : Kept (fun k => k = R + 1 ∨ k = R + 1 + 1) W W') (hi : opc[i]? = some v) : W'.cell? ⟨R, i, none⟩ = some v := (cell_of_heap (op_kept d hk) i).trans hi
theorem kset {i : Nat} {v : Value} (h : Kept (fun k => k = R + 1 ∨ k = R + 1 + 1) W W') : Kept (fun k => k = R + 1 ∨ k = R + 1 + 1) W (W'.setCell ⟨R + 1 + 1, i, none⟩ v) := h.trans (Kept.of_grown (grown_setCell _ _ _ _) _ (fun k hk => by cases hk; exact .inr rfl)) (fun _ _ h => h)
end

set_option maxRecDepth 100000 in
set_option maxHeartbeats 1600000 in
theorem do_join (w0 w : World) (b N : Nat) (o : Option PipeT) (G : Nat → Prop) (kd : Nat) (e n : Int) (s : ByteArray) (x : Bool) (hk : kd % 8 = 5) (hkd : kd ≤ 255) (sp : SP w0 w b N o G) (hN : N < 1000000) (he : pEpochB e = true) (o' : Option PipeT) (q d : Nat) (hst : pStep (opJoin x) e o = (o', q, d)) :
    Calls Tryd.prog 58 #[.pointer (some ⟨b, 0, none⟩), .agg #[.int .u8 kd, .int .i64 e, .int .i64 n, .string s, .bool x]] w (SPP w0 b (N + d) o' G w (resV ⟨q, 0, ⟨#[]⟩, zeroP⟩)) := by
  have D0 := Lib.hid (do_start (opc := #[.int .u8 kd, .int .i64 e, .int .i64 n, .string s, .bool x]) sp)
  have Hg := Lib.hid (guard_new sp)
  clear sp
  have Hst := Lib.hid hst; clear hst
  have hlt : kd < 256 := by omega
  have hk' : (kd : Int) % 8 = 5 := by omega
  go_enter Tryd.func58, Tryd.ntmps58
  go_wp2_with fail
  unfold zRes at D0
  generalize hR : w.heap.size = R at *
  generalize ((w.alloc (.cells #[.int .u8 kd, .int .i64 e, .int .i64 n, .string s, .bool x] 94)).alloc (.cells #[.int .i64 0, .int .i64 0, .string ⟨#[]⟩, .int .i64 0, .int .i64 0, .int .i64 0, .string ⟨#[]⟩] 96)).alloc (.cells #[.int .i64 0, .int .i64 0, .string ⟨#[]⟩, .int .i64 0, .int .i64 0, .int .i64 0, .string ⟨#[]⟩] 96) = W at *
  have hi1 : Hid ((#[.int .u8 kd, .int .i64 e, .int .i64 n, .string s, .bool x] : Array Value)[1]? = some (.int .i64 e)) := rfl
  have hi4 : Hid ((#[.int .u8 kd, .int .i64 e, .int .i64 n, .string s, .bool x] : Array Value)[4]? = some (.bool x)) := rfl
  have c1 : W.cell? ⟨R, 1, none⟩ = some (.int .i64 e) := cell_of_heap D0.out.op 1
  have c4 : W.cell? ⟨R, 4, none⟩ = some (.bool x) := cell_of_heap D0.out.op 4
  have Dd := Lib.hid D0.out.drew
  clear D0
  go_region_held3 (fun w' => w'.cell? ⟨R, 1, none⟩ = some (.int .i64 e) ∧ w'.cell? ⟨R, 4, none⟩ = some (.bool x)) (first | with_reducible exact ⟨c1, c4⟩ | with_reducible exact ⟨op_cell D1.out (Kept.refl _ _) hi1.out, op_cell D1.out (Kept.refl _ _) hi4.out⟩ | with_reducible exact ⟨op_cell D2.out (Kept.refl _ _) hi1.out, op_cell D2.out (Kept.refl _ _) hi4.out⟩ | with_reducible exact ⟨op_cell D2.out (kset (Kept.refl _ _)) hi1.out, op_cell D2.out (kset (Kept.refl _ _)) hi4.out⟩ | go_keep)
    (first
      | (go_at_call 53; refine (one_any _).mono ?_; rintro r w1 ⟨rfl, hb1⟩; have D1 := Lib.hid (Dd.out.later hb1); clear hb1)
      | (go_at_call 60; refine (spJoin w0 w1 b N o _ e D1.out.sp hN he x o' q d Hst.out).mono ?_; rintro r w2 ⟨rfl, s2, hk2⟩; have D2 := Lib.hid (D1.out.step s2 hk2); clear s2 hk2; have q0 := cell_of_heap D2.out.res 0; have f0 : w2.frozen? ⟨R + 1 + 1, 0, none⟩ = false := frozen_of_heap D2.out.res 0; dsimp [zRes] at q0))
  have HK : Hid (Kept (fun k => k = R + 1 ∨ k = R + 1 + 1) w2 (w2.setCell ⟨R + 1 + 1, 0, none⟩ (.int .i64 q))) := kset (Kept.refl _ _)
  have hO : (w2.setCell ⟨R + 1 + 1, 0, none⟩ (.int .i64 q)).heap[R + 1]? = some (.cells zRes 96 (0, 0)) := ((Below.heap_setCell _ _ _ _ (by show R + 1 ≠ R + 1 + 1; omega)).trans D2.out.out)
  have hS0 : (w2.setCell ⟨R + 1 + 1, 0, none⟩ (.int .i64 q)).heap[R + 1 + 1]? = some (.cells #[.int .i64 q, .int .i64 0, .string ⟨#[]⟩, .int .i64 0, .int .i64 0, .int .i64 0, .string ⟨#[]⟩] 96 (0, 0)) := heap_setCell_same D2.out.res 0 _
  clear c1 c4 q0 f0
  generalize (w2.setCell ⟨R + 1 + 1, 0, none⟩ (.int .i64 q)) = W2 at *
  have s0 : W2.cell? ⟨R + 1 + 1, 0, none⟩ = some (.int .i64 q) := cell_of_heap hS0 0
  have s1 : W2.cell? ⟨R + 1 + 1, 1, none⟩ = some (.int .i64 0) := cell_of_heap hS0 1
  have s2 : W2.cell? ⟨R + 1 + 1, 2, none⟩ = some (.string ⟨#[]⟩) := cell_of_heap hS0 2
  have s3 : W2.cell? ⟨R + 1 + 1, 3, none⟩ = some (.int .i64 0) := cell_of_heap hS0 3
  have s4 : W2.cell? ⟨R + 1 + 1, 4, none⟩ = some (.int .i64 0) := cell_of_heap hS0 4
  have s5 : W2.cell? ⟨R + 1 + 1, 5, none⟩ = some (.int .i64 0) := cell_of_heap hS0 5
  have s6 : W2.cell? ⟨R + 1 + 1, 6, none⟩ = some (.string ⟨#[]⟩) := cell_of_heap hS0 6
  have t0 : W2.cell? ⟨R + 1, 0, none⟩ = some (.int .i64 0) := cell_of_heap hO 0
  have t1 : W2.cell? ⟨R + 1, 1, none⟩ = some (.int .i64 0) := cell_of_heap hO 1
  have t2 : W2.cell? ⟨R + 1, 2, none⟩ = some (.string ⟨#[]⟩) := cell_of_heap hO 2
  have t3 : W2.cell? ⟨R + 1, 3, none⟩ = some (.int .i64 0) := cell_of_heap hO 3
  have t4 : W2.cell? ⟨R + 1, 4, none⟩ = some (.int .i64 0) := cell_of_heap hO 4
  have t5 : W2.cell? ⟨R + 1, 5, none⟩ = some (.int .i64 0) := cell_of_heap hO 5
  have t6 : W2.cell? ⟨R + 1, 6, none⟩ = some (.string ⟨#[]⟩) := cell_of_heap hO 6
  have hf : ∀ i, W2.frozen? ⟨R + 1, i, none⟩ = false := fun i => frozen_of_heap hO i
  have HO := Lib.hid hO; clear hO hS0
  go_wp2
  have y := set7_cell HO.out (.int .i64 q) (.int .i64 0) (.string ⟨#[]⟩) (.int .i64 0) (.int .i64 0) (.int .i64 0) (.string ⟨#[]⟩)
  have y0 := y 0
  have y1 := y 1
  have y2 := y 2
  have y3 := y 3
  have y4 := y 4
  have y5 := y 5
  have y6 := y 6
  dsimp at y0 y1 y2 y3 y4 y5 y6
  refine bodyPost_ret (v := .agg #[.int .i64 q, .int .i64 0, .string ⟨#[]⟩, .int .i64 0, .int .i64 0, .int .i64 0, .string ⟨#[]⟩]) (by simp [results, Tryd.results58, go_sem, y0, y1, y2, y3, y4, y5, y6]) rfl ?_
  exact do_end (r := ⟨q, 0, ⟨#[]⟩, zeroP⟩) D2.out Hg.out HK.out _ _ _ _ _ _ _ rfl

set_option maxRecDepth 100000 in
set_option maxHeartbeats 1600000 in
theorem do_leave (w0 w : World) (b N : Nat) (o : Option PipeT) (G : Nat → Prop) (kd : Nat) (e n : Int) (s : ByteArray) (x : Bool) (hk : kd % 8 = 6) (hkd : kd ≤ 255) (sp : SP w0 w b N o G) (hN : N < 1000000) (he : pEpochB e = true) (o' : Option PipeT) (q d : Nat) (hst : pStep (opLeave x) e o = (o', q, d)) :
    Calls Tryd.prog 58 #[.pointer (some ⟨b, 0, none⟩), .agg #[.int .u8 kd, .int .i64 e, .int .i64 n, .string s, .bool x]] w (SPP w0 b (N + d) o' G w (resV ⟨q, 0, ⟨#[]⟩, zeroP⟩)) := by
  have D0 := Lib.hid (do_start (opc := #[.int .u8 kd, .int .i64 e, .int .i64 n, .string s, .bool x]) sp)
  have Hg := Lib.hid (guard_new sp)
  clear sp
  have Hst := Lib.hid hst; clear hst
  have hlt : kd < 256 := by omega
  have hk' : (kd : Int) % 8 = 6 := by omega
  go_enter Tryd.func58, Tryd.ntmps58
  go_wp2_with fail
  unfold zRes at D0
  generalize hR : w.heap.size = R at *
  generalize ((w.alloc (.cells #[.int .u8 kd, .int .i64 e, .int .i64 n, .string s, .bool x] 94)).alloc (.cells #[.int .i64 0, .int .i64 0, .string ⟨#[]⟩, .int .i64 0, .int .i64 0, .int .i64 0, .string ⟨#[]⟩] 96)).alloc (.cells #[.int .i64 0, .int .i64 0, .string ⟨#[]⟩, .int .i64 0, .int .i64 0, .int .i64 0, .string ⟨#[]⟩] 96) = W at *
  have hi1 : Hid ((#[.int .u8 kd, .int .i64 e, .int .i64 n, .string s, .bool x] : Array Value)[1]? = some (.int .i64 e)) := rfl
  have hi4 : Hid ((#[.int .u8 kd, .int .i64 e, .int .i64 n, .string s, .bool x] : Array Value)[4]? = some (.bool x)) := rfl
  have c1 : W.cell? ⟨R, 1, none⟩ = some (.int .i64 e) := cell_of_heap D0.out.op 1
  have c4 : W.cell? ⟨R, 4, none⟩ = some (.bool x) := cell_of_heap D0.out.op 4
  have Dd := Lib.hid D0.out.drew
  clear D0
  go_region_held3 (fun w' => w'.cell? ⟨R, 1, none⟩ = some (.int .i64 e) ∧ w'.cell? ⟨R, 4, none⟩ = some (.bool x)) (first | with_reducible exact ⟨c1, c4⟩ | with_reducible exact ⟨op_cell D1.out (Kept.refl _ _) hi1.out, op_cell D1.out (Kept.refl _ _) hi4.out⟩ | with_reducible exact ⟨op_cell D2.out (Kept.refl _ _) hi1.out, op_cell D2.out (Kept.refl _ _) hi4.out⟩ | with_reducible exact ⟨op_cell D2.out (kset (Kept.refl _ _)) hi1.out, op_cell D2.out (kset (Kept.refl _ _)) hi4.out⟩ | go_keep)
    (first
      | (go_at_call 53; refine (one_any _).mono ?_; rintro r w1 ⟨rfl, hb1⟩; have D1 := Lib.hid (Dd.out.later hb1); clear hb1)
      | (go_at_call 61; refine (spLeave w0 w1 b N o _ e D1.out.sp hN he x o' q d Hst.out).mono ?_; rintro r w2 ⟨rfl, s2, hk2⟩; have D2 := Lib.hid (D1.out.step s2 hk2); clear s2 hk2; have q0 := cell_of_heap D2.out.res 0; have f0 : w2.frozen? ⟨R + 1 + 1, 0, none⟩ = false := frozen_of_heap D2.out.res 0; dsimp [zRes] at q0))
  have HK : Hid (Kept (fun k => k = R + 1 ∨ k = R + 1 + 1) w2 (w2.setCell ⟨R + 1 + 1, 0, none⟩ (.int .i64 q))) := kset (Kept.refl _ _)
  have hO : (w2.setCell ⟨R + 1 + 1, 0, none⟩ (.int .i64 q)).heap[R + 1]? = some (.cells zRes 96 (0, 0)) := ((Below.heap_setCell _ _ _ _ (by show R + 1 ≠ R + 1 + 1; omega)).trans D2.out.out)
  have hS0 : (w2.setCell ⟨R + 1 + 1, 0, none⟩ (.int .i64 q)).heap[R + 1 + 1]? = some (.cells #[.int .i64 q, .int .i64 0, .string ⟨#[]⟩, .int .i64 0, .int .i64 0, .int .i64 0, .string ⟨#[]⟩] 96 (0, 0)) := heap_setCell_same D2.out.res 0 _
  clear c1 c4 q0 f0
  generalize (w2.setCell ⟨R + 1 + 1, 0, none⟩ (.int .i64 q)) = W2 at *
  have s0 : W2.cell? ⟨R + 1 + 1, 0, none⟩ = some (.int .i64 q) := cell_of_heap hS0 0
  have s1 : W2.cell? ⟨R + 1 + 1, 1, none⟩ = some (.int .i64 0) := cell_of_heap hS0 1
  have s2 : W2.cell? ⟨R + 1 + 1, 2, none⟩ = some (.string ⟨#[]⟩) := cell_of_heap hS0 2
  have s3 : W2.cell? ⟨R + 1 + 1, 3, none⟩ = some (.int .i64 0) := cell_of_heap hS0 3
  have s4 : W2.cell? ⟨R + 1 + 1, 4, none⟩ = some (.int .i64 0) := cell_of_heap hS0 4
  have s5 : W2.cell? ⟨R + 1 + 1, 5, none⟩ = some (.int .i64 0) := cell_of_heap hS0 5
  have s6 : W2.cell? ⟨R + 1 + 1, 6, none⟩ = some (.string ⟨#[]⟩) := cell_of_heap hS0 6
  have t0 : W2.cell? ⟨R + 1, 0, none⟩ = some (.int .i64 0) := cell_of_heap hO 0
  have t1 : W2.cell? ⟨R + 1, 1, none⟩ = some (.int .i64 0) := cell_of_heap hO 1
  have t2 : W2.cell? ⟨R + 1, 2, none⟩ = some (.string ⟨#[]⟩) := cell_of_heap hO 2
  have t3 : W2.cell? ⟨R + 1, 3, none⟩ = some (.int .i64 0) := cell_of_heap hO 3
  have t4 : W2.cell? ⟨R + 1, 4, none⟩ = some (.int .i64 0) := cell_of_heap hO 4
  have t5 : W2.cell? ⟨R + 1, 5, none⟩ = some (.int .i64 0) := cell_of_heap hO 5
  have t6 : W2.cell? ⟨R + 1, 6, none⟩ = some (.string ⟨#[]⟩) := cell_of_heap hO 6
  have hf : ∀ i, W2.frozen? ⟨R + 1, i, none⟩ = false := fun i => frozen_of_heap hO i
  have HO := Lib.hid hO; clear hO hS0
  go_wp2
  have y := set7_cell HO.out (.int .i64 q) (.int .i64 0) (.string ⟨#[]⟩) (.int .i64 0) (.int .i64 0) (.int .i64 0) (.string ⟨#[]⟩)
  have y0 := y 0
  have y1 := y 1
  have y2 := y 2
  have y3 := y 3
  have y4 := y 4
  have y5 := y 5
  have y6 := y 6
  dsimp at y0 y1 y2 y3 y4 y5 y6
  refine bodyPost_ret (v := .agg #[.int .i64 q, .int .i64 0, .string ⟨#[]⟩, .int .i64 0, .int .i64 0, .int .i64 0, .string ⟨#[]⟩]) (by simp [results, Tryd.results58, go_sem, y0, y1, y2, y3, y4, y5, y6]) rfl ?_
  exact do_end (r := ⟨q, 0, ⟨#[]⟩, zeroP⟩) D2.out Hg.out HK.out _ _ _ _ _ _ _ rfl

set_option maxRecDepth 100000 in
set_option maxHeartbeats 1600000 in
theorem do_read (w0 w : World) (b N : Nat) (o : Option PipeT) (G : Nat → Prop) (kd : Nat) (e n : Int) (s : ByteArray) (x : Bool) (hk : kd % 8 = 1 ∨ kd % 8 = 2) (hkd : kd ≤ 255) (sp : SP w0 w b N o G) (hN : N < 1000000) (he : pEpochB e = true) (hn : n ≤ 9223372036854775807) (o' : Option PipeT) (q d : Nat) (hst : pStep (opRead n) e o = (o', q, d)) (y : ByteArray) (hy : (if q = 0 then readB n (pHas e o).1 else ⟨#[]⟩) = y) :
    Calls Tryd.prog 58 #[.pointer (some ⟨b, 0, none⟩), .agg #[.int .u8 kd, .int .i64 e, .int .i64 n, .string s, .bool x]] w (SPP w0 b (N + d) o' G w (resV ⟨q, 0, y, zeroP⟩)) := by
  have D0 := Lib.hid (do_start (opc := #[.int .u8 kd, .int .i64 e, .int .i64 n, .string s, .bool x]) sp)
  have Hg := Lib.hid (guard_new sp)
  clear sp
  have Hst := Lib.hid hst; clear hst
  have Hy := Lib.hid hy; clear hy
  have hlt : kd < 256 := by omega
  have hways : (kd : Int) % 8 = 1 ∨ (kd : Int) % 8 = 2 := by omega
  rcases hways with hk' | hk'
  all_goals
    go_enter Tryd.func58, Tryd.ntmps58
    go_wp2_with fail
    unfold zRes at D0
    generalize hR : w.heap.size = R at *
    generalize ((w.alloc (.cells #[.int .u8 kd, .int .i64 e, .int .i64 n, .string s, .bool x] 94)).alloc (.cells #[.int .i64 0, .int .i64 0, .string ⟨#[]⟩, .int .i64 0, .int .i64 0, .int .i64 0, .string ⟨#[]⟩] 96)).alloc (.cells #[.int .i64 0, .int .i64 0, .string ⟨#[]⟩, .int .i64 0, .int .i64 0, .int .i64 0, .string ⟨#[]⟩] 96) = W at *
    have hi1 : Hid ((#[.int .u8 kd, .int .i64 e, .int .i64 n, .string s, .bool x] : Array Value)[1]? = some (.int .i64 e)) := rfl
    have hi2 : Hid ((#[.int .u8 kd, .int .i64 e, .int .i64 n, .string s, .bool x] : Array Value)[2]? = some (.int .i64 n)) := rfl
    have c1 : W.cell? ⟨R, 1, none⟩ = some (.int .i64 e) := cell_of_heap D0.out.op 1
    have c2 : W.cell? ⟨R, 2, none⟩ = some (.int .i64 n) := cell_of_heap D0.out.op 2
    have Dd := Lib.hid D0.out.drew
    clear D0
    go_region_held3 (fun w' => w'.cell? ⟨R, 1, none⟩ = some (.int .i64 e) ∧ w'.cell? ⟨R, 2, none⟩ = some (.int .i64 n)) (first | with_reducible exact ⟨c1, c2⟩ | with_reducible exact ⟨op_cell D1.out (Kept.refl _ _) hi1.out, op_cell D1.out (Kept.refl _ _) hi2.out⟩ | with_reducible exact ⟨op_cell D2.out (Kept.refl _ _) hi1.out, op_cell D2.out (Kept.refl _ _) hi2.out⟩ | with_reducible exact ⟨op_cell D2.out (kset (Kept.refl _ _)) hi1.out, op_cell D2.out (kset (Kept.refl _ _)) hi2.out⟩ | with_reducible exact ⟨op_cell D2.out (kset (kset (Kept.refl _ _))) hi1.out, op_cell D2.out (kset (kset (Kept.refl _ _))) hi2.out⟩ | go_keep)
      (first
        | (go_at_call 53; refine (one_any _).mono ?_; rintro r w1 ⟨rfl, hb1⟩; have D1 := Lib.hid (Dd.out.later hb1); clear hb1)
        | (go_at_call 55; refine (spRead w0 w1 b N o _ e D1.out.sp hN he n hn o' q d Hst.out y Hy.out).mono ?_; rintro r w2 ⟨rfl, s2, hk2⟩; have D2 := Lib.hid (D1.out.step s2 hk2); clear s2 hk2; have q0 := cell_of_heap D2.out.res 0; have f0 : w2.frozen? ⟨R + 1 + 1, 0, none⟩ = false := frozen_of_heap D2.out.res 0; dsimp [zRes] at q0; have q2 := cell_of_heap D2.out.res 2; have f2 : w2.frozen? ⟨R + 1 + 1, 2, none⟩ = false := frozen_of_heap D2.out.res 2; dsimp [zRes] at q2))
    have HK : Hid (Kept (fun k => k = R + 1 ∨ k = R + 1 + 1) w2 ((w2.setCell ⟨R + 1 + 1, 2, none⟩ (.string y)).setCell ⟨R + 1 + 1, 0, none⟩ (.int .i64 q))) := kset (kset (Kept.refl _ _))
    have hO : ((w2.setCell ⟨R + 1 + 1, 2, none⟩ (.string y)).setCell ⟨R + 1 + 1, 0, none⟩ (.int .i64 q)).heap[R + 1]? = some (.cells zRes 96 (0, 0)) := ((Below.heap_setCell _ _ _ _ (by show R + 1 ≠ R + 1 + 1; omega)).trans ((Below.heap_setCell _ _ _ _ (by show R + 1 ≠ R + 1 + 1; omega)).trans D2.out.out))
    have hS0 : (w2.setCell ⟨R + 1 + 1, 2, none⟩ (.string y)).heap[R + 1 + 1]? = some (.cells #[.int .i64 0, .int .i64 0, .string y, .int .i64 0, .int .i64 0, .int .i64 0, .string ⟨#[]⟩] 96 (0, 0)) := heap_setCell_same D2.out.res 2 _
    have hS1 : ((w2.setCell ⟨R + 1 + 1, 2, none⟩ (.string y)).setCell ⟨R + 1 + 1, 0, none⟩ (.int .i64 q)).heap[R + 1 + 1]? = some (.cells #[.int .i64 q, .int .i64 0, .string y, .int .i64 0, .int .i64 0, .int .i64 0, .string ⟨#[]⟩] 96 (0, 0)) := heap_setCell_same hS0 0 _
    clear c1 c2 q0 f0 q2 f2
    clear hS0
    generalize ((w2.setCell ⟨R + 1 + 1, 2, none⟩ (.string y)).setCell ⟨R + 1 + 1, 0, none⟩ (.int .i64 q)) = W2 at *
    have s0 : W2.cell? ⟨R + 1 + 1, 0, none⟩ = some (.int .i64 q) := cell_of_heap hS1 0
    have s1 : W2.cell? ⟨R + 1 + 1, 1, none⟩ = some (.int .i64 0) := cell_of_heap hS1 1
    have s2 : W2.cell? ⟨R + 1 + 1, 2, none⟩ = some (.string y) := cell_of_heap hS1 2
    have s3 : W2.cell? ⟨R + 1 + 1, 3, none⟩ = some (.int .i64 0) := cell_of_heap hS1 3
    have s4 : W2.cell? ⟨R + 1 + 1, 4, none⟩ = some (.int .i64 0) := cell_of_heap hS1 4
    have s5 : W2.cell? ⟨R + 1 + 1, 5, none⟩ = some (.int .i64 0) := cell_of_heap hS1 5
    have s6 : W2.cell? ⟨R + 1 + 1, 6, none⟩ = some (.string ⟨#[]⟩) := cell_of_heap hS1 6
    have t0 : W2.cell? ⟨R + 1, 0, none⟩ = some (.int .i64 0) := cell_of_heap hO 0
    have t1 : W2.cell? ⟨R + 1, 1, none⟩ = some (.int .i64 0) := cell_of_heap hO 1
    have t2 : W2.cell? ⟨R + 1, 2, none⟩ = some (.string ⟨#[]⟩) := cell_of_heap hO 2
    have t3 : W2.cell? ⟨R + 1, 3, none⟩ = some (.int .i64 0) := cell_of_heap hO 3
    have t4 : W2.cell? ⟨R + 1, 4, none⟩ = some (.int .i64 0) := cell_of_heap hO 4
    have t5 : W2.cell? ⟨R + 1, 5, none⟩ = some (.int .i64 0) := cell_of_heap hO 5
    have t6 : W2.cell? ⟨R + 1, 6, none⟩ = some (.string ⟨#[]⟩) := cell_of_heap hO 6
    have hf : ∀ i, W2.frozen? ⟨R + 1, i, none⟩ = false := fun i => frozen_of_heap hO i
    have HO := Lib.hid hO; clear hO hS1
    go_wp2
    have yy := set7_cell HO.out (.int .i64 q) (.int .i64 0) (.string y) (.int .i64 0) (.int .i64 0) (.int .i64 0) (.string ⟨#[]⟩)
    have y0 := yy 0
    have y1 := yy 1
    have y2 := yy 2
    have y3 := yy 3
    have y4 := yy 4
    have y5 := yy 5
    have y6 := yy 6
    dsimp at y0 y1 y2 y3 y4 y5 y6
    refine bodyPost_ret (v := .agg #[.int .i64 q, .int .i64 0, .string y, .int .i64 0, .int .i64 0, .int .i64 0, .string ⟨#[]⟩]) (by simp [results, Tryd.results58, go_sem, y0, y1, y2, y3, y4, y5, y6]) rfl ?_
    exact do_end (r := ⟨q, 0, y, zeroP⟩) D2.out Hg.out HK.out _ _ _ _ _ _ _ rfl

end Go.Proofs.YtmknhokjpmjkkaaDoor
