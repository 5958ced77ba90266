/- Law 32: do. Law 32: a slice of operations. -/
import Derived.Test.YtemmeopaihmlcaaGreatDoorPipK
import Derived.Deep.RegionHeld3
import Derived.BigQuiet
import Derived.BigRegion
import Derived.Deep.DeepCutAuto
namespace Go.Proofs.YtemmeopaihmlcaaGreatDoor
open Go.RowKit
attribute [local go_sem ↓] Go.wp_at_zero Go.wp_at_succ

/-- The result of an operation. -/
structure ResT where
  err : Nat
  n : Nat
  bytes : ByteArray
  pipe : PipeT
  deriving DecidableEq
def resV (r : ResT) : Value := .agg #[.int .i64 r.err, .int .i64 r.n, .string r.bytes, .int .i64 r.pipe.epoch, .int .i64 r.pipe.readers, .int .i64 r.pipe.writers, .string r.pipe.bytes]
def cut600 (s : ByteArray) : ByteArray := s.extract 0 (min s.size 600)
/-- What do does. -/
def doR (kd : Nat) (e n : Int) (s : ByteArray) (x : Bool) (o : Option PipeT) : Option PipeT × ResT × Nat :=
  if kd % 8 = 0 then (if o.isSome = true then (o, ⟨13, 0, ⟨#[]⟩, zeroP⟩, 0) else (some ⟨e, 1, 1, ⟨#[]⟩⟩, ⟨0, 0, ⟨#[]⟩, zeroP⟩, 1))
  else if kd % 8 = 1 ∨ kd % 8 = 2 then ((pStep (opRead n) e o).1, ⟨(pStep (opRead n) e o).2.1, 0, if (pStep (opRead n) e o).2.1 = 0 then readB n (pHas e o).1 else ⟨#[]⟩, zeroP⟩, (pStep (opRead n) e o).2.2)
  else if kd % 8 = 3 ∨ kd % 8 = 4 then ((pStep (opWrite (cut600 s)) e o).1, ⟨(pStep (opWrite (cut600 s)) e o).2.1, if (pStep (opWrite (cut600 s)) e o).2.1 = 0 then writeN (cut600 s) (pHas e o).1 else 0, ⟨#[]⟩, zeroP⟩, (pStep (opWrite (cut600 s)) e o).2.2)
  else if kd % 8 = 5 then ((pStep (opJoin x) e o).1, ⟨(pStep (opJoin x) e o).2.1, 0, ⟨#[]⟩, zeroP⟩, (pStep (opJoin x) e o).2.2)
  else if kd % 8 = 6 then ((pStep (opLeave x) e o).1, ⟨(pStep (opLeave x) e o).2.1, 0, ⟨#[]⟩, zeroP⟩, (pStep (opLeave x) e o).2.2)
  else (o, ⟨(pHas e o).2, 0, ⟨#[]⟩, (pHas e o).1⟩, 0)

def zRes : Array Value := #[.int .i64 0, .int .i64 0, .string ⟨#[]⟩, .int .i64 0, .int .i64 0, .int .i64 0, .string ⟨#[]⟩]

/-- In the midst of do: its boxes from R on. -/
structure DoAt (w0 w W : World) (b N : Nat) (o : Option PipeT) (G : Nat → Prop) (R : Nat) (opc : Array Value) : Prop where
  op : W.heap[R]? = some (.cells opc 81 (0, 0))
  out : W.heap[R + 1]? = some (.cells zRes 83 (0, 0))
  res : W.heap[R + 1 + 1]? = some (.cells zRes 83 (0, 0))
  sp : SP w0 W b N o (fun k => G k ∨ k = R ∨ k = R + 1 ∨ k = R + 1 + 1)
  g : ∀ k, G k → W.heap[k]? = w.heap[k]?
theorem do_start {w0 w : World} {b N : Nat} {o : Option PipeT} {G : Nat → Prop} {opc : Array Value} (s : SP w0 w b N o G) :
    DoAt w0 w (((w.alloc (.cells opc 81)).alloc (.cells zRes 83)).alloc (.cells zRes 83)) b N o G w.heap.size opc := by
  have hb : Below w.heap.size w (((w.alloc (.cells opc 81)).alloc (.cells zRes 83)).alloc (.cells zRes 83)) := (((Below.refl _ _).alloc (Nat.le_refl _) _).alloc (by simp) _).alloc (by simp; omega) _
  refine ⟨(Below.heap_alloc _ _ _ (by simp; omega)).trans ((Below.heap_alloc _ _ _ (by simp)).trans (World.alloc_heap_new w _)), ?_, ?_, s.fresh hb (fun k hk => ?_), fun k hk => ?_⟩
  · exact (Below.heap_alloc _ _ _ (by simp)).trans (second_new w _ _)
  · have := World.alloc_heap_new ((w.alloc (.cells opc 81)).alloc (.cells zRes 83)) (.cells zRes 83)
    rwa [World.size_alloc, World.size_alloc] at this
  · rcases hk with h | h | h | h
    · exact .inl h
    · exact .inr ⟨by omega, by simp; omega⟩
    · exact .inr ⟨by omega, by simp; omega⟩
    · exact .inr ⟨by omega, by simp; omega⟩
  · obtain ⟨⟨V, h, hv, h1, h2, h3, h4⟩, h5⟩ := s
    exact hb.block k (h4 k hk).2.1
section
variable {w0 w W W' : World} {b N N' R : Nat} {o o' : Option PipeT} {G : Nat → Prop} {opc : Array Value}
theorem DoAt.later (d : DoAt w0 w W b N o G R opc) (hb : Below W.heap.size W W') : DoAt w0 w W' b N o G R opc := by
  have hs := d.sp
  refine ⟨(hb.block _ (lt_of_heap d.op)).trans d.op, (hb.block _ (lt_of_heap d.out)).trans d.out, (hb.block _ (lt_of_heap d.res)).trans d.res, hs.later hb, fun k hk => ?_⟩
  obtain ⟨⟨V, h, hv, h1, h2, h3, h4⟩, h5⟩ := hs
  exact (hb.block k (h4 k (.inl hk)).2.1).trans (d.g k hk)
theorem DoAt.drew (d : DoAt w0 w W b N o G R opc) : DoAt w0 w W.drew b N o G R opc := d.later (Below.drew (Below.refl _ _))
theorem DoAt.step (d : DoAt w0 w W b N o G R opc) (s : SP w0 W' b N' o' (fun k => G k ∨ k = R ∨ k = R + 1 ∨ k = R + 1 + 1)) (hk : ∀ k, (G k ∨ k = R ∨ k = R + 1 ∨ k = R + 1 + 1) → W'.heap[k]? = W.heap[k]?) : DoAt w0 w W' b N' o' G R opc :=
  ⟨(hk _ (.inr (.inl rfl))).trans d.op, (hk _ (.inr (.inr (.inl rfl)))).trans d.out, (hk _ (.inr (.inr (.inr rfl)))).trans d.res, s, fun k h => (hk k (.inl h)).trans (d.g k h)⟩
/-- Behind the stores into the result. -/
theorem DoAt.done (d : DoAt w0 w W b N o G R opc) (hR : ∀ k, G k → k ≠ R + 1 ∧ k ≠ R + 1 + 1) (hk : Kept (fun k => k = R + 1 ∨ k = R + 1 + 1) W W') : SP w0 W' b N o G ∧ ∀ k, G k → W'.heap[k]? = w.heap[k]? := by
  have hs := d.sp
  refine ⟨hs.guarded (hk.mono (fun i _ h => .inr (.inr h))) (fun k h => .inl (.inl h)), fun k h => ?_⟩
  obtain ⟨⟨V, hh, hv, h1, h2, h3, h4⟩, h5⟩ := hs
  exact (hk.block k (h4 k (.inl h)).2.1 (fun e => by rcases e with e | e; exact (hR k h).1 e; exact (hR k h).2 e)).trans (d.g k h)
end
theorem guard_new {w0 w : World} {b N : Nat} {o : Option PipeT} {G : Nat → Prop} (s : SP w0 w b N o G) : ∀ k, G k → k ≠ w.heap.size + 1 ∧ k ≠ w.heap.size + 1 + 1 := fun k hk => by
  obtain ⟨⟨V, h, hv, h1, h2, h3, h4⟩, h5⟩ := s
  have := (h4 k hk).2.1
  omega
/-- Seven stores into one block. -/
theorem set7 {w : World} {R : Nat} {p0 p1 p2 p3 p4 p5 p6 : Value} {T : TypeId} (hR : w.heap[R]? = some (.cells #[p0, p1, p2, p3, p4, p5, p6] T (0, 0))) (a0 a1 a2 a3 a4 a5 a6 : Value) :
    (((((((w.setCell ⟨R, 0, none⟩ a0).setCell ⟨R, 1, none⟩ a1).setCell ⟨R, 2, none⟩ a2).setCell ⟨R, 3, none⟩ a3).setCell ⟨R, 4, none⟩ a4).setCell ⟨R, 5, none⟩ a5).setCell ⟨R, 6, none⟩ a6).heap[R]? = some (.cells #[a0, a1, a2, a3, a4, a5, a6] T (0, 0)) := by
  have h1 : (w.setCell ⟨R, 0, none⟩ a0).heap[R]? = some (.cells #[a0, p1, p2, p3, p4, p5, p6] T (0, 0)) := heap_setCell_same hR 0 a0
  have h2 : ((w.setCell ⟨R, 0, none⟩ a0).setCell ⟨R, 1, none⟩ a1).heap[R]? = some (.cells #[a0, a1, p2, p3, p4, p5, p6] T (0, 0)) := heap_setCell_same h1 1 a1
  have h3 : (((w.setCell ⟨R, 0, none⟩ a0).setCell ⟨R, 1, none⟩ a1).setCell ⟨R, 2, none⟩ a2).heap[R]? = some (.cells #[a0, a1, a2, p3, p4, p5, p6] T (0, 0)) := heap_setCell_same h2 2 a2
  have h4 : ((((w.setCell ⟨R, 0, none⟩ a0).setCell ⟨R, 1, none⟩ a1).setCell ⟨R, 2, none⟩ a2).setCell ⟨R, 3, none⟩ a3).heap[R]? = some (.cells #[a0, a1, a2, a3, p4, p5, p6] T (0, 0)) := heap_setCell_same h3 3 a3
  have h5 : (((((w.setCell ⟨R, 0, none⟩ a0).setCell ⟨R, 1, none⟩ a1).setCell ⟨R, 2, none⟩ a2).setCell ⟨R, 3, none⟩ a3).setCell ⟨R, 4, none⟩ a4).heap[R]? = some (.cells #[a0, a1, a2, a3, a4, p5, p6] T (0, 0)) := heap_setCell_same h4 4 a4
  have h6 : ((((((w.setCell ⟨R, 0, none⟩ a0).setCell ⟨R, 1, none⟩ a1).setCell ⟨R, 2, none⟩ a2).setCell ⟨R, 3, none⟩ a3).setCell ⟨R, 4, none⟩ a4).setCell ⟨R, 5, none⟩ a5).heap[R]? = some (.cells #[a0, a1, a2, a3, a4, a5, p6] T (0, 0)) := heap_setCell_same h5 5 a5
  have h7 : (((((((w.setCell ⟨R, 0, none⟩ a0).setCell ⟨R, 1, none⟩ a1).setCell ⟨R, 2, none⟩ a2).setCell ⟨R, 3, none⟩ a3).setCell ⟨R, 4, none⟩ a4).setCell ⟨R, 5, none⟩ a5).setCell ⟨R, 6, none⟩ a6).heap[R]? = some (.cells #[a0, a1, a2, a3, a4, a5, a6] T (0, 0)) := heap_setCell_same h6 6 a6
  exact h7
theorem grown7 (w : World) (R : Nat) (a0 a1 a2 a3 a4 a5 a6 : Value) : w.grownBy (((((((w.setCell ⟨R, 0, none⟩ a0).setCell ⟨R, 1, none⟩ a1).setCell ⟨R, 2, none⟩ a2).setCell ⟨R, 3, none⟩ a3).setCell ⟨R, 4, none⟩ a4).setCell ⟨R, 5, none⟩ a5).setCell ⟨R, 6, none⟩ a6) (some R) :=
  grown_trans (grown_trans (grown_trans (grown_trans (grown_trans (grown_trans (grown_setCell _ _ _ _) (grown_setCell _ _ _ _)) (grown_setCell _ _ _ _)) (grown_setCell _ _ _ _)) (grown_setCell _ _ _ _)) (grown_setCell _ _ _ _)) (grown_setCell _ _ _ _)
/-- The end of do: the result lies in both boxes. -/
theorem do_end {w0 w W W2 : World} {b N R : Nat} {o : Option PipeT} {G : Nat → Prop} {opc : Array Value} {r : ResT} (d : DoAt w0 w W b N o G R opc) (hR : ∀ k, G k → k ≠ R + 1 ∧ k ≠ R + 1 + 1) (hk : Kept (fun k => k = R + 1 ∨ k = R + 1 + 1) W W2)
    (a0 a1 a2 a3 a4 a5 a6 : Value) (hv : resV r = .agg #[a0, a1, a2, a3, a4, a5, a6]) :
    SPP w0 b N o G w (resV r) (.returned (.agg #[a0, a1, a2, a3, a4, a5, a6])) (((((((W2.setCell ⟨R + 1, 0, none⟩ a0).setCell ⟨R + 1, 1, none⟩ a1).setCell ⟨R + 1, 2, none⟩ a2).setCell ⟨R + 1, 3, none⟩ a3).setCell ⟨R + 1, 4, none⟩ a4).setCell ⟨R + 1, 5, none⟩ a5).setCell ⟨R + 1, 6, none⟩ a6) := by
  have k2 := hk.trans (Kept.of_grown (grown7 W2 (R + 1) a0 a1 a2 a3 a4 a5 a6) (fun k => k = R + 1 ∨ k = R + 1 + 1) (fun k hk => by cases hk; exact .inl rfl)) (fun _ _ h => h)
  obtain ⟨h1, h2⟩ := d.done hR k2
  exact ⟨by rw [hv], h1, h2⟩
theorem set7_cell {w : World} {R : Nat} {p0 p1 p2 p3 p4 p5 p6 : Value} {T : TypeId} (hR : w.heap[R]? = some (.cells #[p0, p1, p2, p3, p4, p5, p6] T (0, 0))) (a0 a1 a2 a3 a4 a5 a6 : Value) (j : Nat) :
    (((((((w.setCell ⟨R, 0, none⟩ a0).setCell ⟨R, 1, none⟩ a1).setCell ⟨R, 2, none⟩ a2).setCell ⟨R, 3, none⟩ a3).setCell ⟨R, 4, none⟩ a4).setCell ⟨R, 5, none⟩ a5).setCell ⟨R, 6, none⟩ a6).cell? ⟨R, j, none⟩ = (#[a0, a1, a2, a3, a4, a5, a6] : Array Value)[j]? := cell_of_heap (set7 hR a0 a1 a2 a3 a4 a5 a6) j

set_option maxRecDepth 100000 in
set_option maxHeartbeats 800000 in
theorem do_make (w0 w : World) (b N : Nat) (o : Option PipeT) (G : Nat → Prop) (kd : Nat) (e n : Int) (s : ByteArray) (x : Bool) (hk : kd % 8 = 0) (hkd : kd ≤ 255) (sp : SP w0 w b N o G) (hN : N < 1000000) (he : pEpochB e = true) (o' : Option PipeT) (q d : Nat) (hst : (if o.isSome = true then (o, 13, 0) else (some ⟨e, 1, 1, ⟨#[]⟩⟩, 0, 1)) = (o', q, d)) :
    Calls Tryz.prog 38 #[.pointer (some ⟨b, 0, none⟩), .agg #[.int .u8 kd, .int .i64 e, .int .i64 n, .string s, .bool x]] w (SPP w0 b (N + d) o' G w (resV ⟨q, 0, ⟨#[]⟩, zeroP⟩)) := by
  have D0 := Lib.hid (do_start (opc := #[.int .u8 kd, .int .i64 e, .int .i64 n, .string s, .bool x]) sp)
  have Hg := Lib.hid (guard_new sp)
  clear sp
  have Hst := Lib.hid hst; clear hst
  have hk' : (kd : Int) % 8 = 0 := by omega
  have hlt : kd < 256 := by omega
  go_enter Tryz.func38, Tryz.ntmps38
  go_wp2_with fail
  unfold zRes at D0
  generalize hR : w.heap.size = R at *
  generalize ((w.alloc (.cells #[.int .u8 kd, .int .i64 e, .int .i64 n, .string s, .bool x] 81)).alloc (.cells #[.int .i64 0, .int .i64 0, .string ⟨#[]⟩, .int .i64 0, .int .i64 0, .int .i64 0, .string ⟨#[]⟩] 83)).alloc (.cells #[.int .i64 0, .int .i64 0, .string ⟨#[]⟩, .int .i64 0, .int .i64 0, .int .i64 0, .string ⟨#[]⟩] 83) = W at *
  have c1 : W.cell? ⟨R, 1, none⟩ = some (.int .i64 e) := cell_of_heap D0.out.op 1
  have Dd := Lib.hid D0.out.drew
  clear D0
  go_region_held3 (fun w' => w'.cell? ⟨R, 1, none⟩ = some (.int .i64 e)) (first | go_keep | exact c1 | exact cell_of_heap D1.out.op 1 | exact cell_of_heap D2.out.op 1 | exact (World.cell?_of_block (a := ⟨R, 1, none⟩) (Below.heap_setCell _ _ _ _ (by show R ≠ R + 1 + 1; omega))).trans (cell_of_heap D2.out.op 1))
    (first
      | (go_at_call 28; refine (one_any _).mono ?_; rintro r w1 ⟨rfl, hb1⟩; have D1 := Lib.hid (Dd.out.later hb1); clear hb1)
      | (go_at_call 31; refine (spMake w0 w1 b N o _ e D1.out.sp hN he o' q d Hst.out).mono ?_; rintro r w2 ⟨rfl, s2, hk2⟩; have D2 := Lib.hid (D1.out.step s2 hk2); clear s2 hk2; have r0 : w2.cell? ⟨R + 1 + 1, 0, none⟩ = some (.int .i64 0) := cell_of_heap D2.out.res 0; have f0 : w2.frozen? ⟨R + 1 + 1, 0, none⟩ = false := frozen_of_heap D2.out.res 0))
  have hS := heap_setCell_same D2.out.res 0 (.int .i64 q)
  have hO : (w2.setCell ⟨R + 1 + 1, 0, none⟩ (.int .i64 q)).heap[R + 1]? = some (.cells zRes 83 (0, 0)) := (Below.heap_setCell _ _ _ _ (by show R + 1 ≠ R + 1 + 1; omega)).trans D2.out.out
  have HK : Hid (Kept (fun k => k = R + 1 ∨ k = R + 1 + 1) w2 (w2.setCell ⟨R + 1 + 1, 0, none⟩ (.int .i64 q))) := Kept.of_grown (grown_setCell _ _ _ _) _ (fun k hk => by cases hk; exact .inr rfl)
  clear r0 f0 c1
  generalize w2.setCell ⟨R + 1 + 1, 0, none⟩ (.int .i64 q) = W2 at *
  have s0 : W2.cell? ⟨R + 1 + 1, 0, none⟩ = some (.int .i64 q) := cell_of_heap hS 0
  have s1 : W2.cell? ⟨R + 1 + 1, 1, none⟩ = some (.int .i64 0) := cell_of_heap hS 1
  have s2 : W2.cell? ⟨R + 1 + 1, 2, none⟩ = some (.string ⟨#[]⟩) := cell_of_heap hS 2
  have s3 : W2.cell? ⟨R + 1 + 1, 3, none⟩ = some (.int .i64 0) := cell_of_heap hS 3
  have s4 : W2.cell? ⟨R + 1 + 1, 4, none⟩ = some (.int .i64 0) := cell_of_heap hS 4
  have s5 : W2.cell? ⟨R + 1 + 1, 5, none⟩ = some (.int .i64 0) := cell_of_heap hS 5
  have s6 : W2.cell? ⟨R + 1 + 1, 6, none⟩ = some (.string ⟨#[]⟩) := cell_of_heap hS 6
  have t0 : W2.cell? ⟨R + 1, 0, none⟩ = some (.int .i64 0) := cell_of_heap hO 0
  have t1 : W2.cell? ⟨R + 1, 1, none⟩ = some (.int .i64 0) := cell_of_heap hO 1
  have t2 : W2.cell? ⟨R + 1, 2, none⟩ = some (.string ⟨#[]⟩) := cell_of_heap hO 2
  have t3 : W2.cell? ⟨R + 1, 3, none⟩ = some (.int .i64 0) := cell_of_heap hO 3
  have t4 : W2.cell? ⟨R + 1, 4, none⟩ = some (.int .i64 0) := cell_of_heap hO 4
  have t5 : W2.cell? ⟨R + 1, 5, none⟩ = some (.int .i64 0) := cell_of_heap hO 5
  have t6 : W2.cell? ⟨R + 1, 6, none⟩ = some (.string ⟨#[]⟩) := cell_of_heap hO 6
  have hf : ∀ i, W2.frozen? ⟨R + 1, i, none⟩ = false := fun i => frozen_of_heap hO i
  have HO := Lib.hid hO; clear hO hS
  go_wp2
  have y := set7_cell HO.out (.int .i64 q) (.int .i64 0) (.string ⟨#[]⟩) (.int .i64 0) (.int .i64 0) (.int .i64 0) (.string ⟨#[]⟩)
  have y0 := y 0
  have y1 := y 1
  have y2 := y 2
  have y3 := y 3
  have y4 := y 4
  have y5 := y 5
  have y6 := y 6
  dsimp at y0 y1 y2 y3 y4 y5 y6
  refine bodyPost_ret (v := .agg #[.int .i64 q, .int .i64 0, .string ⟨#[]⟩, .int .i64 0, .int .i64 0, .int .i64 0, .string ⟨#[]⟩]) (by simp [results, Tryz.results38, go_sem, y0, y1, y2, y3, y4, y5, y6]) rfl ?_
  exact do_end (r := ⟨q, 0, ⟨#[]⟩, zeroP⟩) D2.out Hg.out HK.out _ _ _ _ _ _ _ rfl

end Go.Proofs.YtemmeopaihmlcaaGreatDoor

namespace Go.Proofs.YtemmeopaihmlcaaGreatDoor
open Go.RowKit

structure OpT where
  kd : Nat
  e : Int
  n : Int
  s : ByteArray
  x : Bool
/-- A slice of operations that can be read. -/
def OpSl (w : World) (a : Option Addr) (n : Nat) (f : Nat → OpT) : Prop :=
  0 < n → ∃ g off, a = some ⟨g, off, none⟩ ∧ ∀ j, j < n → w.cell? ⟨g, off + j * 5, none⟩ = some (.int .u8 (f j).kd) ∧ w.cell? ⟨g, off + j * 5 + 1, none⟩ = some (.int .i64 (f j).e) ∧ w.cell? ⟨g, off + j * 5 + 2, none⟩ = some (.int .i64 (f j).n) ∧ w.cell? ⟨g, off + j * 5 + 3, none⟩ = some (.string (f j).s) ∧ w.cell? ⟨g, off + j * 5 + 4, none⟩ = some (.bool (f j).x) ∧
    (f j).kd ≤ 255 ∧ (f j).n ≤ 9223372036854775807 ∧ (f j).s.size ≤ 9223372036854775807
theorem OpSl.later {w w' : World} {a : Option Addr} {n : Nat} {f : Nat → OpT} (h : OpSl w a n f) (hb : Below w.heap.size w w') : OpSl w' a n f := fun h0 => by
  obtain ⟨g, off, ha, hc⟩ := h h0
  refine ⟨g, off, ha, fun j hj => ?_⟩
  have hlt := World.block_lt_of_cell? w ⟨g, _, none⟩ (hc j hj).1
  obtain ⟨h1, h2, h3, h4, h5, h6⟩ := hc j hj
  exact ⟨((bcell hb).1 g _ hlt).trans h1, ((bcell hb).1 g _ hlt).trans h2, ((bcell hb).1 g _ hlt).trans h3, ((bcell hb).1 g _ hlt).trans h4, ((bcell hb).1 g _ hlt).trans h5, h6⟩
theorem po_ep : pEpochB 1 = true := by decide +kernel
end Go.Proofs.YtemmeopaihmlcaaGreatDoor
