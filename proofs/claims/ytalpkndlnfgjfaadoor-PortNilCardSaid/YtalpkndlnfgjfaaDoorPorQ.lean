/- Law 37: an operation without a view. -/
import Derived.Test.YtalpkndlnfgjfaaDoorPorP
namespace Go.Proofs.YtalpkndlnfgjfaaDoor
open Go.RowKit
attribute [local go_sem ↓] Go.wp_at_zero Go.wp_at_succ

/-- In the midst of call: the operation, the result's box, the result. -/
structure CA (w W : World) (opc rc : Array Value) : Prop where
  op : W.heap[w.heap.size]? = some (.cells opc 61 (0, 0))
  out : W.heap[w.heap.size + 1]? = some (.cells #[.string ⟨#[]⟩, .string ⟨#[]⟩, .string ⟨#[]⟩, .int .i64 0] 63 (0, 0))
  res : W.heap[w.heap.size + 1 + 1]? = some (.cells rc 63 (0, 0))
  low : Below w.heap.size w W
section
variable {w W W' : World} {opc rc : Array Value}
theorem CA.start (w : World) (opc : Array Value) : CA w (((w.alloc (.cells opc 61)).alloc (.cells #[.string ⟨#[]⟩, .string ⟨#[]⟩, .string ⟨#[]⟩, .int .i64 0] 63)).alloc (.cells #[.string ⟨#[]⟩, .string ⟨#[]⟩, .string ⟨#[]⟩, .int .i64 0] 63)) opc #[.string ⟨#[]⟩, .string ⟨#[]⟩, .string ⟨#[]⟩, .int .i64 0] where
  op := (Below.heap_alloc _ _ _ (by simp; omega)).trans ((Below.heap_alloc _ _ _ (by simp)).trans (World.alloc_heap_new w _))
  out := by
    have h := World.alloc_heap_new (w.alloc (.cells opc 61)) (.cells #[.string ⟨#[]⟩, .string ⟨#[]⟩, .string ⟨#[]⟩, .int .i64 0] 63)
    rw [World.size_alloc] at h
    exact (Below.heap_alloc _ _ _ (by simp)).trans h
  res := by
    have h := World.alloc_heap_new ((w.alloc (.cells opc 61)).alloc (.cells #[.string ⟨#[]⟩, .string ⟨#[]⟩, .string ⟨#[]⟩, .int .i64 0] 63)) (.cells #[.string ⟨#[]⟩, .string ⟨#[]⟩, .string ⟨#[]⟩, .int .i64 0] 63)
    rw [World.size_alloc, World.size_alloc] at h
    exact h
  low := (((Below.refl _ _).alloc (Nat.le_refl _) _).alloc (by simp) _).alloc (by simp; omega) _
theorem CA.later (h : CA w W opc rc) (hb : Below W.heap.size W W') : CA w W' opc rc :=
  ⟨(hb.block _ (lt_of_heap h.op)).trans h.op, (hb.block _ (lt_of_heap h.out)).trans h.out, (hb.block _ (lt_of_heap h.res)).trans h.res, h.low.trans (hb.mono h.low.size)⟩
theorem CA.drew (h : CA w W opc rc) : CA w W.drew opc rc := ⟨h.op, h.out, h.res, h.low.drew⟩
theorem CA.set (h : CA w W opc rc) (i : Nat) (v : Value) (rc' : Array Value) (he : rc.setIfInBounds i v = rc') : CA w (W.setCell ⟨w.heap.size + 1 + 1, i, none⟩ v) opc rc' :=
  ⟨(Below.heap_setCell _ _ _ _ (by show w.heap.size ≠ w.heap.size + 1 + 1; omega)).trans h.op, (Below.heap_setCell _ _ _ _ (by show w.heap.size + 1 ≠ w.heap.size + 1 + 1; omega)).trans h.out, by rw [← he]; exact heap_setCell_same h.res i v, Below.grownRow h.low (grown_setCell _ _ _ _) (Nat.le_refl _) (fun k hk => by cases hk; omega)⟩
theorem CA.six {kd wh us : Nat} {nu ep : Int} {sr by_ : ByteArray} (h : CA w W #[.int .u8 kd, .int .u8 wh, .int .u8 us, .int .i64 nu, .int .i64 ep, .string sr, .string by_] rc) : W.cell? ⟨w.heap.size, 1, none⟩ = some (.int .u8 wh) ∧ W.cell? ⟨w.heap.size, 2, none⟩ = some (.int .u8 us) ∧ W.cell? ⟨w.heap.size, 3, none⟩ = some (.int .i64 nu) ∧ W.cell? ⟨w.heap.size, 4, none⟩ = some (.int .i64 ep) ∧ W.cell? ⟨w.heap.size, 5, none⟩ = some (.string sr) ∧ W.cell? ⟨w.heap.size, 6, none⟩ = some (.string by_) :=
  ⟨cell_of_heap h.op 1, cell_of_heap h.op 2, cell_of_heap h.op 3, cell_of_heap h.op 4, cell_of_heap h.op 5, cell_of_heap h.op 6⟩
end
def NilPost (w : World) (r : Ending) (w' : World) : Prop := r = .returned (.agg #[.string ⟨#[]⟩, .string ⟨#[]⟩, .string ⟨#[]⟩, .int .i64 1]) ∧ Below w.heap.size w w'

set_option maxRecDepth 100000 in
set_option maxHeartbeats 1600000 in
theorem nil_open (kd wh us : Nat) (nu ep : Int) (sr by_ : ByteArray) (w : World) (hkd : kd ≤ 255) (hwh : wh ≤ 255) (hk : kd % 5 = 0) :
    Calls Tryd.prog 27 #[.agg #[.int .u8 kd, .int .u8 wh, .int .u8 us, .int .i64 nu, .int .i64 ep, .string sr, .string by_], .pointer none] w (NilPost w) := by
  have D0 := Lib.hid (CA.start w #[.int .u8 kd, .int .u8 wh, .int .u8 us, .int .i64 nu, .int .i64 ep, .string sr, .string by_])
  have hk' : (kd : Int) % 5 = 0 := by omega
  clear hk
  go_enter Tryd.func27, Tryd.ntmps27
  go_wp2_with fail
  generalize ((w.alloc (.cells #[.int .u8 kd, .int .u8 wh, .int .u8 us, .int .i64 nu, .int .i64 ep, .string sr, .string by_] 61)).alloc (.cells #[.string ⟨#[]⟩, .string ⟨#[]⟩, .string ⟨#[]⟩, .int .i64 0] 63)).alloc (.cells #[.string ⟨#[]⟩, .string ⟨#[]⟩, .string ⟨#[]⟩, .int .i64 0] 63) = W at *
  obtain ⟨c1, c2, c3, c4, c5, c6⟩ := D0.out.six
  have Dd := Lib.hid D0.out.drew
  clear D0
  go_region_held3 (fun w' => w'.cell? ⟨w.heap.size, 1, none⟩ = some (.int .u8 wh) ∧ w'.cell? ⟨w.heap.size, 2, none⟩ = some (.int .u8 us) ∧ w'.cell? ⟨w.heap.size, 3, none⟩ = some (.int .i64 nu) ∧ w'.cell? ⟨w.heap.size, 4, none⟩ = some (.int .i64 ep) ∧ w'.cell? ⟨w.heap.size, 5, none⟩ = some (.string sr) ∧ w'.cell? ⟨w.heap.size, 6, none⟩ = some (.string by_)) (first | with_reducible exact ⟨c1, c2, c3, c4, c5, c6⟩ | with_reducible exact D1.out.six | with_reducible exact D2.out.six | with_reducible exact (D2.out.set 3 (.int .i64 1) #[.string ⟨#[]⟩, .string ⟨#[]⟩, .string ⟨#[]⟩, .int .i64 1] rfl).six | go_keep)
    (first
      | (go_at_call 50; refine (who_any wh _ hwh).mono ?_; rintro r w1 ⟨rfl, hb1⟩; have D1 := Lib.hid (Dd.out.later hb1); clear hb1)
      | (go_at_call 20; refine (openNil_any _ _ _ _ _).mono ?_; rintro r w2 ⟨rfl, hb2⟩; have D2 := Lib.hid (D1.out.later hb2); clear hb2; have q3 : w2.cell? ⟨w.heap.size + 1 + 1, 3, none⟩ = some (.int .i64 0) := cell_of_heap D2.out.res 3; have f3 : w2.frozen? ⟨w.heap.size + 1 + 1, 3, none⟩ = false := frozen_of_heap D2.out.res 3)
      | fail)
  have D3 := Lib.hid (D2.out.set 3 (.int .i64 1) #[.string ⟨#[]⟩, .string ⟨#[]⟩, .string ⟨#[]⟩, .int .i64 1] rfl)
  generalize w2.setCell ⟨w.heap.size + 1 + 1, 3, none⟩ (.int .i64 1) = W3 at *
  clear q3 f3 c1 c2 c3 c4 c5 c6
  have s0 : W3.cell? ⟨w.heap.size + 1 + 1, 0, none⟩ = some (.string ⟨#[]⟩) := cell_of_heap D3.out.res 0
  have s1 : W3.cell? ⟨w.heap.size + 1 + 1, 1, none⟩ = some (.string ⟨#[]⟩) := cell_of_heap D3.out.res 1
  have s2 : W3.cell? ⟨w.heap.size + 1 + 1, 2, none⟩ = some (.string ⟨#[]⟩) := cell_of_heap D3.out.res 2
  have s3 : W3.cell? ⟨w.heap.size + 1 + 1, 3, none⟩ = some (.int .i64 1) := cell_of_heap D3.out.res 3
  have t0 : W3.cell? ⟨w.heap.size + 1, 0, none⟩ = some (.string ⟨#[]⟩) := cell_of_heap D3.out.out 0
  have t1 : W3.cell? ⟨w.heap.size + 1, 1, none⟩ = some (.string ⟨#[]⟩) := cell_of_heap D3.out.out 1
  have t2 : W3.cell? ⟨w.heap.size + 1, 2, none⟩ = some (.string ⟨#[]⟩) := cell_of_heap D3.out.out 2
  have t3 : W3.cell? ⟨w.heap.size + 1, 3, none⟩ = some (.int .i64 0) := cell_of_heap D3.out.out 3
  have g0 : W3.frozen? ⟨w.heap.size + 1, 0, none⟩ = false := frozen_of_heap D3.out.out 0
  have g1 : W3.frozen? ⟨w.heap.size + 1, 1, none⟩ = false := frozen_of_heap D3.out.out 1
  have g2 : W3.frozen? ⟨w.heap.size + 1, 2, none⟩ = false := frozen_of_heap D3.out.out 2
  have g3 : W3.frozen? ⟨w.heap.size + 1, 3, none⟩ = false := frozen_of_heap D3.out.out 3
  go_wp2
  refine bodyPost_ret (v := .agg #[.string ⟨#[]⟩, .string ⟨#[]⟩, .string ⟨#[]⟩, .int .i64 1]) (by simp [results, Tryd.results27, go_sem, t0, t1, t2, t3]) rfl ?_
  exact ⟨rfl, Below.grownRow D3.out.low (grown_set4 _ _ _ _ _ _) (Nat.le_refl _) (fun k hk => by cases hk; omega)⟩

set_option maxRecDepth 100000 in
set_option maxHeartbeats 1600000 in
theorem nil_close (kd wh us : Nat) (nu ep : Int) (sr by_ : ByteArray) (w : World) (hkd : kd ≤ 255) (hwh : wh ≤ 255) (hk : kd % 5 = 1) :
    Calls Tryd.prog 27 #[.agg #[.int .u8 kd, .int .u8 wh, .int .u8 us, .int .i64 nu, .int .i64 ep, .string sr, .string by_], .pointer none] w (NilPost w) := by
  have D0 := Lib.hid (CA.start w #[.int .u8 kd, .int .u8 wh, .int .u8 us, .int .i64 nu, .int .i64 ep, .string sr, .string by_])
  have hk' : (kd : Int) % 5 = 1 := by omega
  clear hk
  go_enter Tryd.func27, Tryd.ntmps27
  go_wp2_with fail
  generalize ((w.alloc (.cells #[.int .u8 kd, .int .u8 wh, .int .u8 us, .int .i64 nu, .int .i64 ep, .string sr, .string by_] 61)).alloc (.cells #[.string ⟨#[]⟩, .string ⟨#[]⟩, .string ⟨#[]⟩, .int .i64 0] 63)).alloc (.cells #[.string ⟨#[]⟩, .string ⟨#[]⟩, .string ⟨#[]⟩, .int .i64 0] 63) = W at *
  obtain ⟨c1, c2, c3, c4, c5, c6⟩ := D0.out.six
  have Dd := Lib.hid D0.out.drew
  clear D0
  go_region_held3 (fun w' => w'.cell? ⟨w.heap.size, 1, none⟩ = some (.int .u8 wh) ∧ w'.cell? ⟨w.heap.size, 2, none⟩ = some (.int .u8 us) ∧ w'.cell? ⟨w.heap.size, 3, none⟩ = some (.int .i64 nu) ∧ w'.cell? ⟨w.heap.size, 4, none⟩ = some (.int .i64 ep) ∧ w'.cell? ⟨w.heap.size, 5, none⟩ = some (.string sr) ∧ w'.cell? ⟨w.heap.size, 6, none⟩ = some (.string by_)) (first | with_reducible exact ⟨c1, c2, c3, c4, c5, c6⟩ | with_reducible exact D1.out.six | with_reducible exact D2.out.six | with_reducible exact (D2.out.set 3 (.int .i64 1) #[.string ⟨#[]⟩, .string ⟨#[]⟩, .string ⟨#[]⟩, .int .i64 1] rfl).six | go_keep)
    (first
      | (go_at_call 50; refine (who_any wh _ hwh).mono ?_; rintro r w1 ⟨rfl, hb1⟩; have D1 := Lib.hid (Dd.out.later hb1); clear hb1)
      | (go_at_call 26; refine (closeNil_any _ _ _ _).mono ?_; rintro r w2 ⟨rfl, hb2⟩; have D2 := Lib.hid (D1.out.later hb2); clear hb2; have q3 : w2.cell? ⟨w.heap.size + 1 + 1, 3, none⟩ = some (.int .i64 0) := cell_of_heap D2.out.res 3; have f3 : w2.frozen? ⟨w.heap.size + 1 + 1, 3, none⟩ = false := frozen_of_heap D2.out.res 3)
      | fail)
  have D3 := Lib.hid (D2.out.set 3 (.int .i64 1) #[.string ⟨#[]⟩, .string ⟨#[]⟩, .string ⟨#[]⟩, .int .i64 1] rfl)
  generalize w2.setCell ⟨w.heap.size + 1 + 1, 3, none⟩ (.int .i64 1) = W3 at *
  clear q3 f3 c1 c2 c3 c4 c5 c6
  have s0 : W3.cell? ⟨w.heap.size + 1 + 1, 0, none⟩ = some (.string ⟨#[]⟩) := cell_of_heap D3.out.res 0
  have s1 : W3.cell? ⟨w.heap.size + 1 + 1, 1, none⟩ = some (.string ⟨#[]⟩) := cell_of_heap D3.out.res 1
  have s2 : W3.cell? ⟨w.heap.size + 1 + 1, 2, none⟩ = some (.string ⟨#[]⟩) := cell_of_heap D3.out.res 2
  have s3 : W3.cell? ⟨w.heap.size + 1 + 1, 3, none⟩ = some (.int .i64 1) := cell_of_heap D3.out.res 3
  have t0 : W3.cell? ⟨w.heap.size + 1, 0, none⟩ = some (.string ⟨#[]⟩) := cell_of_heap D3.out.out 0
  have t1 : W3.cell? ⟨w.heap.size + 1, 1, none⟩ = some (.string ⟨#[]⟩) := cell_of_heap D3.out.out 1
  have t2 : W3.cell? ⟨w.heap.size + 1, 2, none⟩ = some (.string ⟨#[]⟩) := cell_of_heap D3.out.out 2
  have t3 : W3.cell? ⟨w.heap.size + 1, 3, none⟩ = some (.int .i64 0) := cell_of_heap D3.out.out 3
  have g0 : W3.frozen? ⟨w.heap.size + 1, 0, none⟩ = false := frozen_of_heap D3.out.out 0
  have g1 : W3.frozen? ⟨w.heap.size + 1, 1, none⟩ = false := frozen_of_heap D3.out.out 1
  have g2 : W3.frozen? ⟨w.heap.size + 1, 2, none⟩ = false := frozen_of_heap D3.out.out 2
  have g3 : W3.frozen? ⟨w.heap.size + 1, 3, none⟩ = false := frozen_of_heap D3.out.out 3
  go_wp2
  refine bodyPost_ret (v := .agg #[.string ⟨#[]⟩, .string ⟨#[]⟩, .string ⟨#[]⟩, .int .i64 1]) (by simp [results, Tryd.results27, go_sem, t0, t1, t2, t3]) rfl ?_
  exact ⟨rfl, Below.grownRow D3.out.low (grown_set4 _ _ _ _ _ _) (Nat.le_refl _) (fun k hk => by cases hk; omega)⟩

set_option maxRecDepth 100000 in
set_option maxHeartbeats 1600000 in
theorem nil_arrive (kd wh us : Nat) (nu ep : Int) (sr by_ : ByteArray) (w : World) (hkd : kd ≤ 255) (hsr : sr.size ≤ 9223372036854775807) (hby : by_.size ≤ 9223372036854775807) (hk : kd % 5 = 2) :
    Calls Tryd.prog 27 #[.agg #[.int .u8 kd, .int .u8 wh, .int .u8 us, .int .i64 nu, .int .i64 ep, .string sr, .string by_], .pointer none] w (NilPost w) := by
  have D0 := Lib.hid (CA.start w #[.int .u8 kd, .int .u8 wh, .int .u8 us, .int .i64 nu, .int .i64 ep, .string sr, .string by_])
  have hk' : (kd : Int) % 5 = 2 := by omega
  clear hk
  go_enter Tryd.func27, Tryd.ntmps27
  go_wp2_with fail
  generalize ((w.alloc (.cells #[.int .u8 kd, .int .u8 wh, .int .u8 us, .int .i64 nu, .int .i64 ep, .string sr, .string by_] 61)).alloc (.cells #[.string ⟨#[]⟩, .string ⟨#[]⟩, .string ⟨#[]⟩, .int .i64 0] 63)).alloc (.cells #[.string ⟨#[]⟩, .string ⟨#[]⟩, .string ⟨#[]⟩, .int .i64 0] 63) = W at *
  obtain ⟨c1, c2, c3, c4, c5, c6⟩ := D0.out.six
  have Dd := Lib.hid D0.out.drew
  clear D0
  go_region_held3 (fun w' => w'.cell? ⟨w.heap.size, 1, none⟩ = some (.int .u8 wh) ∧ w'.cell? ⟨w.heap.size, 2, none⟩ = some (.int .u8 us) ∧ w'.cell? ⟨w.heap.size, 3, none⟩ = some (.int .i64 nu) ∧ w'.cell? ⟨w.heap.size, 4, none⟩ = some (.int .i64 ep) ∧ w'.cell? ⟨w.heap.size, 5, none⟩ = some (.string sr) ∧ w'.cell? ⟨w.heap.size, 6, none⟩ = some (.string by_)) (first | with_reducible exact ⟨c1, c2, c3, c4, c5, c6⟩ | with_reducible exact D1.out.six | with_reducible exact D2.out.six | with_reducible exact (D2.out.set 3 (.int .i64 1) #[.string ⟨#[]⟩, .string ⟨#[]⟩, .string ⟨#[]⟩, .int .i64 1] rfl).six | go_keep)
    (first
      | (go_at_call 21; refine (small_any sr by_ _ hsr hby).mono ?_; rintro r w1 ⟨rfl, hb1⟩; have D1 := Lib.hid (Dd.out.later hb1); clear hb1)
      | (go_at_call 22; refine (arriveNil_any _ _ _ _ _).mono ?_; rintro r w2 ⟨rfl, hb2⟩; have D2 := Lib.hid (D1.out.later hb2); clear hb2; have q3 : w2.cell? ⟨w.heap.size + 1 + 1, 3, none⟩ = some (.int .i64 0) := cell_of_heap D2.out.res 3; have f3 : w2.frozen? ⟨w.heap.size + 1 + 1, 3, none⟩ = false := frozen_of_heap D2.out.res 3)
      | fail)
  have D3 := Lib.hid (D2.out.set 3 (.int .i64 1) #[.string ⟨#[]⟩, .string ⟨#[]⟩, .string ⟨#[]⟩, .int .i64 1] rfl)
  generalize w2.setCell ⟨w.heap.size + 1 + 1, 3, none⟩ (.int .i64 1) = W3 at *
  clear q3 f3 c1 c2 c3 c4 c5 c6
  have s0 : W3.cell? ⟨w.heap.size + 1 + 1, 0, none⟩ = some (.string ⟨#[]⟩) := cell_of_heap D3.out.res 0
  have s1 : W3.cell? ⟨w.heap.size + 1 + 1, 1, none⟩ = some (.string ⟨#[]⟩) := cell_of_heap D3.out.res 1
  have s2 : W3.cell? ⟨w.heap.size + 1 + 1, 2, none⟩ = some (.string ⟨#[]⟩) := cell_of_heap D3.out.res 2
  have s3 : W3.cell? ⟨w.heap.size + 1 + 1, 3, none⟩ = some (.int .i64 1) := cell_of_heap D3.out.res 3
  have t0 : W3.cell? ⟨w.heap.size + 1, 0, none⟩ = some (.string ⟨#[]⟩) := cell_of_heap D3.out.out 0
  have t1 : W3.cell? ⟨w.heap.size + 1, 1, none⟩ = some (.string ⟨#[]⟩) := cell_of_heap D3.out.out 1
  have t2 : W3.cell? ⟨w.heap.size + 1, 2, none⟩ = some (.string ⟨#[]⟩) := cell_of_heap D3.out.out 2
  have t3 : W3.cell? ⟨w.heap.size + 1, 3, none⟩ = some (.int .i64 0) := cell_of_heap D3.out.out 3
  have g0 : W3.frozen? ⟨w.heap.size + 1, 0, none⟩ = false := frozen_of_heap D3.out.out 0
  have g1 : W3.frozen? ⟨w.heap.size + 1, 1, none⟩ = false := frozen_of_heap D3.out.out 1
  have g2 : W3.frozen? ⟨w.heap.size + 1, 2, none⟩ = false := frozen_of_heap D3.out.out 2
  have g3 : W3.frozen? ⟨w.heap.size + 1, 3, none⟩ = false := frozen_of_heap D3.out.out 3
  go_wp2
  refine bodyPost_ret (v := .agg #[.string ⟨#[]⟩, .string ⟨#[]⟩, .string ⟨#[]⟩, .int .i64 1]) (by simp [results, Tryd.results27, go_sem, t0, t1, t2, t3]) rfl ?_
  exact ⟨rfl, Below.grownRow D3.out.low (grown_set4 _ _ _ _ _ _) (Nat.le_refl _) (fun k hk => by cases hk; omega)⟩

set_option maxRecDepth 100000 in
set_option maxHeartbeats 1600000 in
theorem nil_receive (kd wh us : Nat) (nu ep : Int) (sr by_ : ByteArray) (w : World) (hkd : kd ≤ 255) (hwh : wh ≤ 255) (hk : kd % 5 = 3) :
    Calls Tryd.prog 27 #[.agg #[.int .u8 kd, .int .u8 wh, .int .u8 us, .int .i64 nu, .int .i64 ep, .string sr, .string by_], .pointer none] w (NilPost w) := by
  have D0 := Lib.hid (CA.start w #[.int .u8 kd, .int .u8 wh, .int .u8 us, .int .i64 nu, .int .i64 ep, .string sr, .string by_])
  have hk' : (kd : Int) % 5 = 3 := by omega
  clear hk
  go_enter Tryd.func27, Tryd.ntmps27
  go_wp2_with fail
  generalize ((w.alloc (.cells #[.int .u8 kd, .int .u8 wh, .int .u8 us, .int .i64 nu, .int .i64 ep, .string sr, .string by_] 61)).alloc (.cells #[.string ⟨#[]⟩, .string ⟨#[]⟩, .string ⟨#[]⟩, .int .i64 0] 63)).alloc (.cells #[.string ⟨#[]⟩, .string ⟨#[]⟩, .string ⟨#[]⟩, .int .i64 0] 63) = W at *
  obtain ⟨c1, c2, c3, c4, c5, c6⟩ := D0.out.six
  have Dd := Lib.hid D0.out.drew
  clear D0
  go_region_held3 (fun w' => w'.cell? ⟨w.heap.size, 1, none⟩ = some (.int .u8 wh) ∧ w'.cell? ⟨w.heap.size, 2, none⟩ = some (.int .u8 us) ∧ w'.cell? ⟨w.heap.size, 3, none⟩ = some (.int .i64 nu) ∧ w'.cell? ⟨w.heap.size, 4, none⟩ = some (.int .i64 ep) ∧ w'.cell? ⟨w.heap.size, 5, none⟩ = some (.string sr) ∧ w'.cell? ⟨w.heap.size, 6, none⟩ = some (.string by_)) (first | with_reducible exact ⟨c1, c2, c3, c4, c5, c6⟩ | with_reducible exact D1.out.six | with_reducible exact D2.out.six | with_reducible exact (D2.out.set 0 (.string ⟨#[]⟩) #[.string ⟨#[]⟩, .string ⟨#[]⟩, .string ⟨#[]⟩, .int .i64 0] rfl).six | with_reducible exact ((D2.out.set 0 (.string ⟨#[]⟩) #[.string ⟨#[]⟩, .string ⟨#[]⟩, .string ⟨#[]⟩, .int .i64 0] rfl).set 1 (.string ⟨#[]⟩) #[.string ⟨#[]⟩, .string ⟨#[]⟩, .string ⟨#[]⟩, .int .i64 0] rfl).six | with_reducible exact (((D2.out.set 0 (.string ⟨#[]⟩) #[.string ⟨#[]⟩, .string ⟨#[]⟩, .string ⟨#[]⟩, .int .i64 0] rfl).set 1 (.string ⟨#[]⟩) #[.string ⟨#[]⟩, .string ⟨#[]⟩, .string ⟨#[]⟩, .int .i64 0] rfl).set 3 (.int .i64 1) #[.string ⟨#[]⟩, .string ⟨#[]⟩, .string ⟨#[]⟩, .int .i64 1] rfl).six | go_keep)
    (first
      | (go_at_call 50; refine (who_any wh _ hwh).mono ?_; rintro r w1 ⟨rfl, hb1⟩; have D1 := Lib.hid (Dd.out.later hb1); clear hb1)
      | (go_at_call 24; refine (receiveNil_any _ _ _ _).mono ?_; rintro r w2 ⟨rfl, hb2⟩; have D2 := Lib.hid (D1.out.later hb2); clear hb2; have q3 : w2.cell? ⟨w.heap.size + 1 + 1, 3, none⟩ = some (.int .i64 0) := cell_of_heap D2.out.res 3; have f3 : w2.frozen? ⟨w.heap.size + 1 + 1, 3, none⟩ = false := frozen_of_heap D2.out.res 3; have q0 : w2.cell? ⟨w.heap.size + 1 + 1, 0, none⟩ = some (.string ⟨#[]⟩) := cell_of_heap D2.out.res 0; have q1 : w2.cell? ⟨w.heap.size + 1 + 1, 1, none⟩ = some (.string ⟨#[]⟩) := cell_of_heap D2.out.res 1; have f0 : w2.frozen? ⟨w.heap.size + 1 + 1, 0, none⟩ = false := frozen_of_heap D2.out.res 0; have f1 : w2.frozen? ⟨w.heap.size + 1 + 1, 1, none⟩ = false := frozen_of_heap D2.out.res 1)
      | fail)
  have D3 := Lib.hid (((D2.out.set 0 (.string ⟨#[]⟩) #[.string ⟨#[]⟩, .string ⟨#[]⟩, .string ⟨#[]⟩, .int .i64 0] rfl).set 1 (.string ⟨#[]⟩) #[.string ⟨#[]⟩, .string ⟨#[]⟩, .string ⟨#[]⟩, .int .i64 0] rfl).set 3 (.int .i64 1) #[.string ⟨#[]⟩, .string ⟨#[]⟩, .string ⟨#[]⟩, .int .i64 1] rfl)
  generalize ((w2.setCell ⟨w.heap.size + 1 + 1, 0, none⟩ (.string ⟨#[]⟩)).setCell ⟨w.heap.size + 1 + 1, 1, none⟩ (.string ⟨#[]⟩)).setCell ⟨w.heap.size + 1 + 1, 3, none⟩ (.int .i64 1) = W3 at *
  clear q3 f3 q0 q1 f0 f1 c1 c2 c3 c4 c5 c6
  have s0 : W3.cell? ⟨w.heap.size + 1 + 1, 0, none⟩ = some (.string ⟨#[]⟩) := cell_of_heap D3.out.res 0
  have s1 : W3.cell? ⟨w.heap.size + 1 + 1, 1, none⟩ = some (.string ⟨#[]⟩) := cell_of_heap D3.out.res 1
  have s2 : W3.cell? ⟨w.heap.size + 1 + 1, 2, none⟩ = some (.string ⟨#[]⟩) := cell_of_heap D3.out.res 2
  have s3 : W3.cell? ⟨w.heap.size + 1 + 1, 3, none⟩ = some (.int .i64 1) := cell_of_heap D3.out.res 3
  have t0 : W3.cell? ⟨w.heap.size + 1, 0, none⟩ = some (.string ⟨#[]⟩) := cell_of_heap D3.out.out 0
  have t1 : W3.cell? ⟨w.heap.size + 1, 1, none⟩ = some (.string ⟨#[]⟩) := cell_of_heap D3.out.out 1
  have t2 : W3.cell? ⟨w.heap.size + 1, 2, none⟩ = some (.string ⟨#[]⟩) := cell_of_heap D3.out.out 2
  have t3 : W3.cell? ⟨w.heap.size + 1, 3, none⟩ = some (.int .i64 0) := cell_of_heap D3.out.out 3
  have g0 : W3.frozen? ⟨w.heap.size + 1, 0, none⟩ = false := frozen_of_heap D3.out.out 0
  have g1 : W3.frozen? ⟨w.heap.size + 1, 1, none⟩ = false := frozen_of_heap D3.out.out 1
  have g2 : W3.frozen? ⟨w.heap.size + 1, 2, none⟩ = false := frozen_of_heap D3.out.out 2
  have g3 : W3.frozen? ⟨w.heap.size + 1, 3, none⟩ = false := frozen_of_heap D3.out.out 3
  go_wp2
  refine bodyPost_ret (v := .agg #[.string ⟨#[]⟩, .string ⟨#[]⟩, .string ⟨#[]⟩, .int .i64 1]) (by simp [results, Tryd.results27, go_sem, t0, t1, t2, t3]) rfl ?_
  exact ⟨rfl, Below.grownRow D3.out.low (grown_set4 _ _ _ _ _ _) (Nat.le_refl _) (fun k hk => by cases hk; omega)⟩

set_option maxRecDepth 100000 in
set_option maxHeartbeats 1600000 in
theorem nil_get (kd wh us : Nat) (nu ep : Int) (sr by_ : ByteArray) (w : World) (hkd : kd ≤ 255) (hk : kd % 5 = 4) :
    Calls Tryd.prog 27 #[.agg #[.int .u8 kd, .int .u8 wh, .int .u8 us, .int .i64 nu, .int .i64 ep, .string sr, .string by_], .pointer none] w (NilPost w) := by
  have D0 := Lib.hid (CA.start w #[.int .u8 kd, .int .u8 wh, .int .u8 us, .int .i64 nu, .int .i64 ep, .string sr, .string by_])
  have hk' : (kd : Int) % 5 = 4 := by omega
  clear hk
  go_enter Tryd.func27, Tryd.ntmps27
  go_wp2_with fail
  generalize ((w.alloc (.cells #[.int .u8 kd, .int .u8 wh, .int .u8 us, .int .i64 nu, .int .i64 ep, .string sr, .string by_] 61)).alloc (.cells #[.string ⟨#[]⟩, .string ⟨#[]⟩, .string ⟨#[]⟩, .int .i64 0] 63)).alloc (.cells #[.string ⟨#[]⟩, .string ⟨#[]⟩, .string ⟨#[]⟩, .int .i64 0] 63) = W at *
  obtain ⟨c1, c2, c3, c4, c5, c6⟩ := D0.out.six
  go_wp2_with fail
  refine (getNil_any _ _ _).mono ?_
  rintro r w1 ⟨rfl, hb1⟩
  have D1 := Lib.hid (D0.out.later hb1)
  clear hb1 c1 c2 c3 c4 c5 c6 D0
  have q3 : w1.cell? ⟨w.heap.size + 1 + 1, 3, none⟩ = some (.int .i64 0) := cell_of_heap D1.out.res 3
  have f3 : w1.frozen? ⟨w.heap.size + 1 + 1, 3, none⟩ = false := frozen_of_heap D1.out.res 3
  have hl := lt_of_heap D1.out.res
  have hne := World.new_ne w1 ⟨w.heap.size + 1 + 1, 3, none⟩ q3
  have D2 : Hid (∀ o, CA w ((w1.setCell ⟨w.heap.size + 1 + 1, 3, none⟩ (.int .i64 1)).alloc o) #[.int .u8 kd, .int .u8 wh, .int .u8 us, .int .i64 nu, .int .i64 ep, .string sr, .string by_] #[.string ⟨#[]⟩, .string ⟨#[]⟩, .string ⟨#[]⟩, .int .i64 1]) := fun o => (D1.out.set 3 _ _ rfl).later ((Below.refl _ _).alloc (Nat.le_refl _) _)
  go_upto_region 15 with fail
  have D3 := Lib.hid (D2.out (.cells #[.string ⟨#[]⟩, .int .i64 0, .int .i64 0, .slice none 0 0] 25))
  generalize (w1.setCell ⟨w.heap.size + 1 + 1, 3, none⟩ (.int .i64 1)).alloc (.cells #[.string ⟨#[]⟩, .int .i64 0, .int .i64 0, .slice none 0 0] 25) = W3 at *
  clear q3 f3 hl hne D2

  have s0 : W3.cell? ⟨w.heap.size + 1 + 1, 0, none⟩ = some (.string ⟨#[]⟩) := cell_of_heap D3.out.res 0
  have s1 : W3.cell? ⟨w.heap.size + 1 + 1, 1, none⟩ = some (.string ⟨#[]⟩) := cell_of_heap D3.out.res 1
  have s2 : W3.cell? ⟨w.heap.size + 1 + 1, 2, none⟩ = some (.string ⟨#[]⟩) := cell_of_heap D3.out.res 2
  have s3 : W3.cell? ⟨w.heap.size + 1 + 1, 3, none⟩ = some (.int .i64 1) := cell_of_heap D3.out.res 3
  have t0 : W3.cell? ⟨w.heap.size + 1, 0, none⟩ = some (.string ⟨#[]⟩) := cell_of_heap D3.out.out 0
  have t1 : W3.cell? ⟨w.heap.size + 1, 1, none⟩ = some (.string ⟨#[]⟩) := cell_of_heap D3.out.out 1
  have t2 : W3.cell? ⟨w.heap.size + 1, 2, none⟩ = some (.string ⟨#[]⟩) := cell_of_heap D3.out.out 2
  have t3 : W3.cell? ⟨w.heap.size + 1, 3, none⟩ = some (.int .i64 0) := cell_of_heap D3.out.out 3
  have g0 : W3.frozen? ⟨w.heap.size + 1, 0, none⟩ = false := frozen_of_heap D3.out.out 0
  have g1 : W3.frozen? ⟨w.heap.size + 1, 1, none⟩ = false := frozen_of_heap D3.out.out 1
  have g2 : W3.frozen? ⟨w.heap.size + 1, 2, none⟩ = false := frozen_of_heap D3.out.out 2
  have g3 : W3.frozen? ⟨w.heap.size + 1, 3, none⟩ = false := frozen_of_heap D3.out.out 3
  go_wp2
  refine bodyPost_ret (v := .agg #[.string ⟨#[]⟩, .string ⟨#[]⟩, .string ⟨#[]⟩, .int .i64 1]) (by simp [results, Tryd.results27, go_sem, t0, t1, t2, t3]) rfl ?_
  exact ⟨rfl, Below.grownRow D3.out.low (grown_set4 _ _ _ _ _ _) (Nat.le_refl _) (fun k hk => by cases hk; omega)⟩

theorem nil_any (kd wh us : Nat) (nu ep : Int) (sr by_ : ByteArray) (w : World) (hkd : kd ≤ 255) (hwh : wh ≤ 255) (hsr : sr.size ≤ 9223372036854775807) (hby : by_.size ≤ 9223372036854775807) :
    Calls Tryd.prog 27 #[.agg #[.int .u8 kd, .int .u8 wh, .int .u8 us, .int .i64 nu, .int .i64 ep, .string sr, .string by_], .pointer none] w (NilPost w) := by
  have h5 : kd % 5 = 0 ∨ kd % 5 = 1 ∨ kd % 5 = 2 ∨ kd % 5 = 3 ∨ kd % 5 = 4 := by omega
  rcases h5 with h | h | h | h | h
  · exact nil_open kd wh us nu ep sr by_ w hkd hwh h
  · exact nil_close kd wh us nu ep sr by_ w hkd hwh h
  · exact nil_arrive kd wh us nu ep sr by_ w hkd hsr hby h
  · exact nil_receive kd wh us nu ep sr by_ w hkd hwh h
  · exact nil_get kd wh us nu ep sr by_ w hkd h

end Go.Proofs.YtalpkndlnfgjfaaDoor
