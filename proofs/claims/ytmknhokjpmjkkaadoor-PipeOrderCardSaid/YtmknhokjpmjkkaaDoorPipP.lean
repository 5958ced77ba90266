/- Law 32: do, Get. -/
import Derived.Test.YtmknhokjpmjkkaaDoorPipO
namespace Go.Proofs.YtmknhokjpmjkkaaDoor
open Go.RowKit
attribute [local go_sem ↓] Go.wp_at_zero Go.wp_at_succ

theorem spGet4 (w0 w : World) (b N : Nat) (o : Option PipeT) (G : Nat → Prop) (e : Int) (s : SP w0 w b N o G) (he : pEpochB e = true) (ep re wr : Int) (by_ : ByteArray) (q : Nat) (hst : pHas e o = (⟨ep, re, wr, by_⟩, q)) :
    Calls Tryd.prog 59 #[.pointer (some ⟨b, 0, none⟩), .agg #[.string ⟨#[51, 46, 49]⟩, .int .i64 2], .int .i64 e] w (SPP w0 b N o G w (.tuple #[.agg #[.int .i64 ep, .int .i64 re, .int .i64 wr, .string by_], .int .i64 q])) := spGet w0 w b N o G e s he ⟨ep, re, wr, by_⟩ q hst

set_option maxRecDepth 100000 in
set_option maxHeartbeats 1600000 in
theorem do_get (w0 w : World) (b N : Nat) (o : Option PipeT) (G : Nat → Prop) (kd : Nat) (e n : Int) (s : ByteArray) (x : Bool) (hk : kd % 8 = 7) (hkd : kd ≤ 255) (sp : SP w0 w b N o G) (_hN : N < 1000000) (he : pEpochB e = true) (ep re wr : Int) (by_ : ByteArray) (q : Nat) (hst : pHas e o = (⟨ep, re, wr, by_⟩, q)) :
    Calls Tryd.prog 58 #[.pointer (some ⟨b, 0, none⟩), .agg #[.int .u8 kd, .int .i64 e, .int .i64 n, .string s, .bool x]] w (SPP w0 b N o G w (resV ⟨q, 0, ⟨#[]⟩, ⟨ep, re, wr, by_⟩⟩)) := by
  have D0 := Lib.hid (do_start (opc := #[.int .u8 kd, .int .i64 e, .int .i64 n, .string s, .bool x]) sp)
  have Hg := Lib.hid (guard_new sp)
  clear sp
  have Hst := Lib.hid hst; clear hst
  have hlt : kd < 256 := by omega
  have hk' : (kd : Int) % 8 = 7 := by omega
  go_enter Tryd.func58, Tryd.ntmps58
  go_wp2_with fail
  unfold zRes at D0
  generalize hR : w.heap.size = R at *
  generalize ((w.alloc (.cells #[.int .u8 kd, .int .i64 e, .int .i64 n, .string s, .bool x] 94)).alloc (.cells #[.int .i64 0, .int .i64 0, .string ⟨#[]⟩, .int .i64 0, .int .i64 0, .int .i64 0, .string ⟨#[]⟩] 96)).alloc (.cells #[.int .i64 0, .int .i64 0, .string ⟨#[]⟩, .int .i64 0, .int .i64 0, .int .i64 0, .string ⟨#[]⟩] 96) = W at *
  have hi1 : Hid ((#[.int .u8 kd, .int .i64 e, .int .i64 n, .string s, .bool x] : Array Value)[1]? = some (.int .i64 e)) := rfl
  have c1 : W.cell? ⟨R, 1, none⟩ = some (.int .i64 e) := cell_of_heap D0.out.op 1
  have Dd := Lib.hid D0.out.drew
  clear D0
  go_region_held3 (fun w' => w'.cell? ⟨R, 1, none⟩ = some (.int .i64 e)) (first | with_reducible exact c1 | with_reducible exact op_cell D1.out (Kept.refl _ _) hi1.out | with_reducible exact op_cell D2.out (Kept.refl _ _) hi1.out | with_reducible exact op_cell D2.out (kset (Kept.refl _ _)) hi1.out | with_reducible exact op_cell D2.out (kset (kset (Kept.refl _ _))) hi1.out | with_reducible exact op_cell D2.out (kset (kset (kset (Kept.refl _ _)))) hi1.out | with_reducible exact op_cell D2.out (kset (kset (kset (kset (Kept.refl _ _))))) hi1.out | with_reducible exact op_cell D2.out (kset (kset (kset (kset (kset (Kept.refl _ _)))))) hi1.out | go_keep)
    (first
      | (go_at_call 53; refine (one_any _).mono ?_; rintro r w1 ⟨rfl, hb1⟩; have D1 := Lib.hid (Dd.out.later hb1); clear hb1)
      | (go_at_call 59; refine (spGet4 w0 w1 b N o _ e D1.out.sp he ep re wr by_ q Hst.out).mono ?_; rintro r w2 ⟨rfl, s2, hk2⟩; have D2 := Lib.hid (D1.out.step s2 hk2); clear s2 hk2; have q0 := cell_of_heap D2.out.res 0; have f0 : w2.frozen? ⟨R + 1 + 1, 0, none⟩ = false := frozen_of_heap D2.out.res 0; dsimp [zRes] at q0; have q3 := cell_of_heap D2.out.res 3; have f3 : w2.frozen? ⟨R + 1 + 1, 3, none⟩ = false := frozen_of_heap D2.out.res 3; dsimp [zRes] at q3; have q4 := cell_of_heap D2.out.res 4; have f4 : w2.frozen? ⟨R + 1 + 1, 4, none⟩ = false := frozen_of_heap D2.out.res 4; dsimp [zRes] at q4; have q5 := cell_of_heap D2.out.res 5; have f5 : w2.frozen? ⟨R + 1 + 1, 5, none⟩ = false := frozen_of_heap D2.out.res 5; dsimp [zRes] at q5; have q6 := cell_of_heap D2.out.res 6; have f6 : w2.frozen? ⟨R + 1 + 1, 6, none⟩ = false := frozen_of_heap D2.out.res 6; dsimp [zRes] at q6))
  have HK : Hid (Kept (fun k => k = R + 1 ∨ k = R + 1 + 1) w2 (((((w2.setCell ⟨R + 1 + 1, 3, none⟩ (.int .i64 ep)).setCell ⟨R + 1 + 1, 4, none⟩ (.int .i64 re)).setCell ⟨R + 1 + 1, 5, none⟩ (.int .i64 wr)).setCell ⟨R + 1 + 1, 6, none⟩ (.string by_)).setCell ⟨R + 1 + 1, 0, none⟩ (.int .i64 q))) := kset (kset (kset (kset (kset (Kept.refl _ _)))))
  have hO : (((((w2.setCell ⟨R + 1 + 1, 3, none⟩ (.int .i64 ep)).setCell ⟨R + 1 + 1, 4, none⟩ (.int .i64 re)).setCell ⟨R + 1 + 1, 5, none⟩ (.int .i64 wr)).setCell ⟨R + 1 + 1, 6, none⟩ (.string by_)).setCell ⟨R + 1 + 1, 0, none⟩ (.int .i64 q)).heap[R + 1]? = some (.cells zRes 96 (0, 0)) := ((Below.heap_setCell _ _ _ _ (by show R + 1 ≠ R + 1 + 1; omega)).trans ((Below.heap_setCell _ _ _ _ (by show R + 1 ≠ R + 1 + 1; omega)).trans ((Below.heap_setCell _ _ _ _ (by show R + 1 ≠ R + 1 + 1; omega)).trans ((Below.heap_setCell _ _ _ _ (by show R + 1 ≠ R + 1 + 1; omega)).trans ((Below.heap_setCell _ _ _ _ (by show R + 1 ≠ R + 1 + 1; omega)).trans D2.out.out)))))
  have hS0 : (w2.setCell ⟨R + 1 + 1, 3, none⟩ (.int .i64 ep)).heap[R + 1 + 1]? = some (.cells #[.int .i64 0, .int .i64 0, .string ⟨#[]⟩, .int .i64 ep, .int .i64 0, .int .i64 0, .string ⟨#[]⟩] 96 (0, 0)) := heap_setCell_same D2.out.res 3 _
  have hS1 : ((w2.setCell ⟨R + 1 + 1, 3, none⟩ (.int .i64 ep)).setCell ⟨R + 1 + 1, 4, none⟩ (.int .i64 re)).heap[R + 1 + 1]? = some (.cells #[.int .i64 0, .int .i64 0, .string ⟨#[]⟩, .int .i64 ep, .int .i64 re, .int .i64 0, .string ⟨#[]⟩] 96 (0, 0)) := heap_setCell_same hS0 4 _
  have hS2 : (((w2.setCell ⟨R + 1 + 1, 3, none⟩ (.int .i64 ep)).setCell ⟨R + 1 + 1, 4, none⟩ (.int .i64 re)).setCell ⟨R + 1 + 1, 5, none⟩ (.int .i64 wr)).heap[R + 1 + 1]? = some (.cells #[.int .i64 0, .int .i64 0, .string ⟨#[]⟩, .int .i64 ep, .int .i64 re, .int .i64 wr, .string ⟨#[]⟩] 96 (0, 0)) := heap_setCell_same hS1 5 _
  have hS3 : ((((w2.setCell ⟨R + 1 + 1, 3, none⟩ (.int .i64 ep)).setCell ⟨R + 1 + 1, 4, none⟩ (.int .i64 re)).setCell ⟨R + 1 + 1, 5, none⟩ (.int .i64 wr)).setCell ⟨R + 1 + 1, 6, none⟩ (.string by_)).heap[R + 1 + 1]? = some (.cells #[.int .i64 0, .int .i64 0, .string ⟨#[]⟩, .int .i64 ep, .int .i64 re, .int .i64 wr, .string by_] 96 (0, 0)) := heap_setCell_same hS2 6 _
  have hS4 : (((((w2.setCell ⟨R + 1 + 1, 3, none⟩ (.int .i64 ep)).setCell ⟨R + 1 + 1, 4, none⟩ (.int .i64 re)).setCell ⟨R + 1 + 1, 5, none⟩ (.int .i64 wr)).setCell ⟨R + 1 + 1, 6, none⟩ (.string by_)).setCell ⟨R + 1 + 1, 0, none⟩ (.int .i64 q)).heap[R + 1 + 1]? = some (.cells #[.int .i64 q, .int .i64 0, .string ⟨#[]⟩, .int .i64 ep, .int .i64 re, .int .i64 wr, .string by_] 96 (0, 0)) := heap_setCell_same hS3 0 _
  clear c1 q0 f0 q3 f3 q4 f4 q5 f5 q6 f6
  clear hS0 hS1 hS2 hS3
  generalize (((((w2.setCell ⟨R + 1 + 1, 3, none⟩ (.int .i64 ep)).setCell ⟨R + 1 + 1, 4, none⟩ (.int .i64 re)).setCell ⟨R + 1 + 1, 5, none⟩ (.int .i64 wr)).setCell ⟨R + 1 + 1, 6, none⟩ (.string by_)).setCell ⟨R + 1 + 1, 0, none⟩ (.int .i64 q)) = W2 at *
  have s0 : W2.cell? ⟨R + 1 + 1, 0, none⟩ = some (.int .i64 q) := cell_of_heap hS4 0
  have s1 : W2.cell? ⟨R + 1 + 1, 1, none⟩ = some (.int .i64 0) := cell_of_heap hS4 1
  have s2 : W2.cell? ⟨R + 1 + 1, 2, none⟩ = some (.string ⟨#[]⟩) := cell_of_heap hS4 2
  have s3 : W2.cell? ⟨R + 1 + 1, 3, none⟩ = some (.int .i64 ep) := cell_of_heap hS4 3
  have s4 : W2.cell? ⟨R + 1 + 1, 4, none⟩ = some (.int .i64 re) := cell_of_heap hS4 4
  have s5 : W2.cell? ⟨R + 1 + 1, 5, none⟩ = some (.int .i64 wr) := cell_of_heap hS4 5
  have s6 : W2.cell? ⟨R + 1 + 1, 6, none⟩ = some (.string by_) := cell_of_heap hS4 6
  have t0 : W2.cell? ⟨R + 1, 0, none⟩ = some (.int .i64 0) := cell_of_heap hO 0
  have t1 : W2.cell? ⟨R + 1, 1, none⟩ = some (.int .i64 0) := cell_of_heap hO 1
  have t2 : W2.cell? ⟨R + 1, 2, none⟩ = some (.string ⟨#[]⟩) := cell_of_heap hO 2
  have t3 : W2.cell? ⟨R + 1, 3, none⟩ = some (.int .i64 0) := cell_of_heap hO 3
  have t4 : W2.cell? ⟨R + 1, 4, none⟩ = some (.int .i64 0) := cell_of_heap hO 4
  have t5 : W2.cell? ⟨R + 1, 5, none⟩ = some (.int .i64 0) := cell_of_heap hO 5
  have t6 : W2.cell? ⟨R + 1, 6, none⟩ = some (.string ⟨#[]⟩) := cell_of_heap hO 6
  have hf : ∀ i, W2.frozen? ⟨R + 1, i, none⟩ = false := fun i => frozen_of_heap hO i
  have HO := Lib.hid hO; clear hO hS4
  go_wp2
  have y := set7_cell HO.out (.int .i64 q) (.int .i64 0) (.string ⟨#[]⟩) (.int .i64 ep) (.int .i64 re) (.int .i64 wr) (.string by_)
  have y0 := y 0
  have y1 := y 1
  have y2 := y 2
  have y3 := y 3
  have y4 := y 4
  have y5 := y 5
  have y6 := y 6
  dsimp at y0 y1 y2 y3 y4 y5 y6
  refine bodyPost_ret (v := .agg #[.int .i64 q, .int .i64 0, .string ⟨#[]⟩, .int .i64 ep, .int .i64 re, .int .i64 wr, .string by_]) (by simp [results, Tryd.results58, go_sem, y0, y1, y2, y3, y4, y5, y6]) rfl ?_
  exact do_end (r := ⟨q, 0, ⟨#[]⟩, ⟨ep, re, wr, by_⟩⟩) D2.out Hg.out HK.out _ _ _ _ _ _ _ rfl

end Go.Proofs.YtmknhokjpmjkkaaDoor
