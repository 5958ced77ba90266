/- Law 33: an operation without a view. -/
import Derived.Test.YtemmeopaihmlcaaDoorNilA
import Derived.Deep.RegionHeld3
import Derived.Deep.QuietTactic
import Derived.BigQuiet
import Derived.BigRegion
namespace Go.Proofs.YtemmeopaihmlcaaDoor
open Go.RowKit
attribute [local go_sem ↓] Go.wp_at_zero Go.wp_at_succ

def whoS (k : Nat) : ByteArray := if k % 6 = 0 then ⟨#[]⟩ else if k % 6 = 1 then ⟨#[49]⟩ else if k % 6 = 2 then ⟨#[49, 46, 49]⟩ else if k % 6 = 3 then ⟨#[49, 46, 50]⟩ else if k % 6 = 4 then ⟨#[49, 46, 50, 46, 49]⟩ else ⟨#[50]⟩
set_option maxRecDepth 100000 in
set_option maxHeartbeats 1600000 in
theorem whoS_any (k : Nat) (w : World) (hk : k ≤ 255) : Calls Tryd.prog 40 #[.int .u8 k] w fun r w' => r = .returned (.string (whoS k)) ∧ Below w.heap.size w w' := by
  have HB : Hid (∀ o1, Below w.heap.size w (w.alloc o1)) := fun o1 => (Below.refl _ _).alloc (Nat.le_refl _) _
  have h6 : k % 6 = 0 ∨ k % 6 = 1 ∨ k % 6 = 2 ∨ k % 6 = 3 ∨ k % 6 = 4 ∨ k % 6 = 5 := by omega
  rcases h6 with h | h | h | h | h | h
  · have he : Hid (whoS k = ⟨#[]⟩) := by show _ = _; simp [whoS, h]
    have h' : (k : Int) % 6 = 0 := by omega
    clear h
    go_enter Tryd.func40, Tryd.ntmps40
    go_wp2
    go_ret
    rw [he.out]
    exact ⟨rfl, HB.out _⟩
  · have he : Hid (whoS k = ⟨#[49]⟩) := by show _ = _; simp [whoS, h]
    have h' : (k : Int) % 6 = 1 := by omega
    clear h
    go_enter Tryd.func40, Tryd.ntmps40
    go_wp2
    go_ret
    rw [he.out]
    exact ⟨rfl, HB.out _⟩
  · have he : Hid (whoS k = ⟨#[49, 46, 49]⟩) := by show _ = _; simp [whoS, h]
    have h' : (k : Int) % 6 = 2 := by omega
    clear h
    go_enter Tryd.func40, Tryd.ntmps40
    go_wp2
    go_ret
    rw [he.out]
    exact ⟨rfl, HB.out _⟩
  · have he : Hid (whoS k = ⟨#[49, 46, 50]⟩) := by show _ = _; simp [whoS, h]
    have h' : (k : Int) % 6 = 3 := by omega
    clear h
    go_enter Tryd.func40, Tryd.ntmps40
    go_wp2
    go_ret
    rw [he.out]
    exact ⟨rfl, HB.out _⟩
  · have he : Hid (whoS k = ⟨#[49, 46, 50, 46, 49]⟩) := by show _ = _; simp [whoS, h]
    have h' : (k : Int) % 6 = 4 := by omega
    clear h
    go_enter Tryd.func40, Tryd.ntmps40
    go_wp2
    go_ret
    rw [he.out]
    exact ⟨rfl, HB.out _⟩
  · have he : Hid (whoS k = ⟨#[50]⟩) := by show _ = _; simp [whoS, h]
    have h' : (k : Int) % 6 = 5 := by omega
    clear h
    go_enter Tryd.func40, Tryd.ntmps40
    go_wp2
    go_ret
    rw [he.out]
    exact ⟨rfl, HB.out _⟩

/-- In the midst of call: the operation, the result's box, the result at Z. -/
structure CB (w W : World) (Z : Nat) (opc rc : Array Value) : Prop where
  op : W.heap[w.heap.size]? = some (.cells opc 44 (0, 0))
  out : W.heap[w.heap.size + 1]? = some (.cells #[.int .i64 0, .int .i64 0, .int .i64 0, .bool false, .int .i64 0] 46 (0, 0))
  res : W.heap[Z]? = some (.cells rc 46 (0, 0))
  lt : w.heap.size + 1 < Z
  low : Below w.heap.size w W
section
variable {w W W' : World} {Z : Nat} {opc rc : Array Value}
theorem CB.later (h : CB w W Z opc rc) (hb : Below W.heap.size W W') : CB w W' Z opc rc :=
  ⟨(hb.block _ (lt_of_heap h.op)).trans h.op, (hb.block _ (lt_of_heap h.out)).trans h.out, (hb.block _ (lt_of_heap h.res)).trans h.res, h.lt, h.low.trans (hb.mono h.low.size)⟩
theorem CB.set (h : CB w W Z opc rc) (i : Nat) (v : Value) (rc' : Array Value) (he : rc.setIfInBounds i v = rc') : CB w (W.setCell ⟨Z, i, none⟩ v) Z opc rc' :=
  ⟨(Below.heap_setCell _ _ _ _ (by show w.heap.size ≠ Z; have := h.lt; omega)).trans h.op, (Below.heap_setCell _ _ _ _ (by show w.heap.size + 1 ≠ Z; have := h.lt; omega)).trans h.out, by rw [← he]; exact heap_setCell_same h.res i v, h.lt, Below.grownRow h.low (grown_setCell _ _ _ _) (Nat.le_refl _) (fun k hk => by cases hk; have := h.lt; omega)⟩
/-- Before the result is made. -/
structure CB0 (w W : World) (opc : Array Value) : Prop where
  op : W.heap[w.heap.size]? = some (.cells opc 44 (0, 0))
  out : W.heap[w.heap.size + 1]? = some (.cells #[.int .i64 0, .int .i64 0, .int .i64 0, .bool false, .int .i64 0] 46 (0, 0))
  low : Below w.heap.size w W
theorem CB0.start (w : World) (opc : Array Value) : CB0 w ((w.alloc (.cells opc 44)).alloc (.cells #[.int .i64 0, .int .i64 0, .int .i64 0, .bool false, .int .i64 0] 46)) opc where
  op := (Below.heap_alloc _ _ _ (by simp)).trans (World.alloc_heap_new w _)
  out := second_newS w _ _
  low := ((Below.refl _ _).alloc (Nat.le_refl _) _).alloc (by simp) _
theorem CB0.later (h : CB0 w W opc) (hb : Below W.heap.size W W') : CB0 w W' opc :=
  ⟨(hb.block _ (lt_of_heap h.op)).trans h.op, (hb.block _ (lt_of_heap h.out)).trans h.out, h.low.trans (hb.mono h.low.size)⟩
theorem CB0.drew (h : CB0 w W opc) : CB0 w W.drew opc := ⟨h.op, h.out, h.low.drew⟩
theorem CB0.next (h : CB0 w W opc) : CB w (W.alloc (.cells #[.int .i64 0, .int .i64 0, .int .i64 0, .bool false, .int .i64 0] 46)) W.heap.size opc #[.int .i64 0, .int .i64 0, .int .i64 0, .bool false, .int .i64 0] :=
  ⟨(Below.heap_alloc _ _ _ (lt_of_heap h.op)).trans h.op, (Below.heap_alloc _ _ _ (lt_of_heap h.out)).trans h.out, World.alloc_heap_new W _, lt_of_heap h.out, h.low.alloc h.low.size _⟩
theorem CB0.two {kd wh to : Nat} {sg nn : Int} {iss : Bool} (h : CB0 w W #[.int .u8 kd, .int .u8 wh, .int .u8 to, .int .i64 sg, .int .i64 nn, .bool iss]) : W.cell? ⟨w.heap.size, 1, none⟩ = some (.int .u8 wh) ∧ W.cell? ⟨w.heap.size, 2, none⟩ = some (.int .u8 to) := ⟨cell_of_heap h.op 1, cell_of_heap h.op 2⟩
theorem grown_set5 (w : World) (Y : Nat) (v0 v1 v2 v3 v4 : Value) : w.grownBy (((((w.setCell ⟨Y, 0, none⟩ v0).setCell ⟨Y, 1, none⟩ v1).setCell ⟨Y, 2, none⟩ v2).setCell ⟨Y, 3, none⟩ v3).setCell ⟨Y, 4, none⟩ v4) (some Y) :=
  grown_trans (grown_trans (grown_trans (grown_trans (grown_setCell _ _ _ _) (grown_setCell _ _ _ _)) (grown_setCell _ _ _ _)) (grown_setCell _ _ _ _)) (grown_setCell _ _ _ _)
end
/-- What an operation without a view returns. -/
def nilE (k : Nat) : Int := if k = 9 then 0 else 1
def NilPost (w : World) (k : Nat) (r : Ending) (w' : World) : Prop := r = .returned (.agg #[.int .i64 0, .int .i64 0, .int .i64 0, .bool false, .int .i64 (nilE k)]) ∧ Below w.heap.size w w'

set_option maxRecDepth 100000 in
set_option maxHeartbeats 6400000 in
theorem snil_any (kd wh to : Nat) (sg nn : Int) (iss : Bool) (w : World) (hwh : wh ≤ 255) (hto : to ≤ 255) (hkd : kd ≤ 255) :
    Calls Tryd.prog 15 #[.agg #[.int .u8 kd, .int .u8 wh, .int .u8 to, .int .i64 sg, .int .i64 nn, .bool iss], .pointer none] w (NilPost w (kd % 10)) := by
  have D0 := Lib.hid (CB0.start w #[.int .u8 kd, .int .u8 wh, .int .u8 to, .int .i64 sg, .int .i64 nn, .bool iss])
  have h10 : Hid (kd % 10 = 0 ∨ kd % 10 = 1 ∨ kd % 10 = 2 ∨ kd % 10 = 3 ∨ kd % 10 = 4 ∨ kd % 10 = 5 ∨ kd % 10 = 6 ∨ kd % 10 = 7 ∨ kd % 10 = 8 ∨ kd % 10 = 9) := by show _ ∨ _; omega
  have tok : True := trivial
  go_enter Tryd.func15, Tryd.ntmps15
  go_wp2_with fail
  generalize (w.alloc (.cells #[.int .u8 kd, .int .u8 wh, .int .u8 to, .int .i64 sg, .int .i64 nn, .bool iss] 44)).alloc (.cells #[.int .i64 0, .int .i64 0, .int .i64 0, .bool false, .int .i64 0] 46) = W at *
  obtain ⟨c1, c2⟩ := D0.out.two
  have Dd := Lib.hid D0.out.drew
  clear D0
  go_region_held3 (fun w' => w'.cell? ⟨w.heap.size, 1, none⟩ = some (.int .u8 wh) ∧ w'.cell? ⟨w.heap.size, 2, none⟩ = some (.int .u8 to)) (first | with_reducible exact ⟨c1, c2⟩ | with_reducible exact D1.out.two | with_reducible exact D2.out.two | go_keep)
    (first
      | (go_at_call 40; have _g := tok; clear _g; refine (whoS_any wh _ hwh).mono ?_; rintro r w1 ⟨rfl, hb1⟩; have D1 := Lib.hid (Dd.out.later hb1); clear hb1 tok)
      | (go_at_call 40; refine (whoS_any to _ hto).mono ?_; rintro r w2 ⟨rfl, hb2⟩; have D2 := Lib.hid (D1.out.later hb2); clear hb2)
      | fail)
  clear c1 c2
  go_upto_region 3 with fail
  have D3 := Lib.hid D2.out.next
  clear Dd D1 D2
  generalize w2.alloc (.cells #[.int .i64 0, .int .i64 0, .int .i64 0, .bool false, .int .i64 0] 46) = Wa at *
  generalize w2.heap.size = ZZ at *
  have c0 : Wa.cell? ⟨w.heap.size, 0, none⟩ = some (.int .u8 kd) := cell_of_heap D3.out.op 0
  have c3 : Wa.cell? ⟨w.heap.size, 3, none⟩ = some (.int .i64 sg) := cell_of_heap D3.out.op 3
  have c4 : Wa.cell? ⟨w.heap.size, 4, none⟩ = some (.int .i64 nn) := cell_of_heap D3.out.op 4
  have c5 : Wa.cell? ⟨w.heap.size, 5, none⟩ = some (.bool iss) := cell_of_heap D3.out.op 5
  rcases h10.out with h | h | h | h | h | h | h | h | h | h
  · have hk : (kd : Int) % 10 = 0 := by omega
    have hE : Hid (nilE (kd % 10) = 1) := by show _ = _; rw [h]; rfl
    clear h h10
    go_wp2_with fail
    refine (makeNil_any _ _).mono ?_
    rintro r w3 ⟨rfl, hb3⟩
    have D4 := Lib.hid (D3.out.later hb3)
    clear hb3 D3 c0 c3 c4 c5
    have q4 : w3.cell? ⟨ZZ, 4, none⟩ = some (.int .i64 0) := cell_of_heap D4.out.res 4
    have f4 : w3.frozen? ⟨ZZ, 4, none⟩ = false := frozen_of_heap D4.out.res 4
    go_upto_region 23 with fail
    have D5 := Lib.hid (D4.out.set 4 (.int .i64 1) #[.int .i64 0, .int .i64 0, .int .i64 0, .bool false, .int .i64 1] rfl)
    generalize (w3.setCell ⟨ZZ, 4, none⟩ (.int .i64 1)) = W3 at *
    clear D4 q4 f4
    have s0 : W3.cell? ⟨ZZ, 0, none⟩ = some (.int .i64 0) := cell_of_heap D5.out.res 0
    have s1 : W3.cell? ⟨ZZ, 1, none⟩ = some (.int .i64 0) := cell_of_heap D5.out.res 1
    have s2 : W3.cell? ⟨ZZ, 2, none⟩ = some (.int .i64 0) := cell_of_heap D5.out.res 2
    have s3 : W3.cell? ⟨ZZ, 3, none⟩ = some (.bool false) := cell_of_heap D5.out.res 3
    have s4 : W3.cell? ⟨ZZ, 4, none⟩ = some (.int .i64 1) := cell_of_heap D5.out.res 4
    have t0 : W3.cell? ⟨w.heap.size + 1, 0, none⟩ = some (.int .i64 0) := cell_of_heap D5.out.out 0
    have g0 : W3.frozen? ⟨w.heap.size + 1, 0, none⟩ = false := frozen_of_heap D5.out.out 0
    have t1 : W3.cell? ⟨w.heap.size + 1, 1, none⟩ = some (.int .i64 0) := cell_of_heap D5.out.out 1
    have g1 : W3.frozen? ⟨w.heap.size + 1, 1, none⟩ = false := frozen_of_heap D5.out.out 1
    have t2 : W3.cell? ⟨w.heap.size + 1, 2, none⟩ = some (.int .i64 0) := cell_of_heap D5.out.out 2
    have g2 : W3.frozen? ⟨w.heap.size + 1, 2, none⟩ = false := frozen_of_heap D5.out.out 2
    have t3 : W3.cell? ⟨w.heap.size + 1, 3, none⟩ = some (.bool false) := cell_of_heap D5.out.out 3
    have g3 : W3.frozen? ⟨w.heap.size + 1, 3, none⟩ = false := frozen_of_heap D5.out.out 3
    have t4 : W3.cell? ⟨w.heap.size + 1, 4, none⟩ = some (.int .i64 0) := cell_of_heap D5.out.out 4
    have g4 : W3.frozen? ⟨w.heap.size + 1, 4, none⟩ = false := frozen_of_heap D5.out.out 4
    go_wp2
    refine bodyPost_ret (v := .agg #[.int .i64 0, .int .i64 0, .int .i64 0, .bool false, .int .i64 1]) (by simp [results, Tryd.results15, go_sem, t0, t1, t2, t3, t4]) rfl ?_
    exact ⟨by rw [hE.out], Below.grownRow D5.out.low (grown_set5 _ _ _ _ _ _ _) (Nat.le_refl _) (fun k hk => by cases hk; omega)⟩
  · have hk : (kd : Int) % 10 = 1 := by omega
    have hE : Hid (nilE (kd % 10) = 1) := by show _ = _; rw [h]; rfl
    clear h h10
    go_wp2_with fail
    refine (forkNil_any _ _ _).mono ?_
    rintro r w3 ⟨rfl, hb3⟩
    have D4 := Lib.hid (D3.out.later hb3)
    clear hb3 D3 c0 c3 c4 c5
    have q4 : w3.cell? ⟨ZZ, 4, none⟩ = some (.int .i64 0) := cell_of_heap D4.out.res 4
    have f4 : w3.frozen? ⟨ZZ, 4, none⟩ = false := frozen_of_heap D4.out.res 4
    go_upto_region 23 with fail
    have D5 := Lib.hid (D4.out.set 4 (.int .i64 1) #[.int .i64 0, .int .i64 0, .int .i64 0, .bool false, .int .i64 1] rfl)
    generalize (w3.setCell ⟨ZZ, 4, none⟩ (.int .i64 1)) = W3 at *
    clear D4 q4 f4
    have s0 : W3.cell? ⟨ZZ, 0, none⟩ = some (.int .i64 0) := cell_of_heap D5.out.res 0
    have s1 : W3.cell? ⟨ZZ, 1, none⟩ = some (.int .i64 0) := cell_of_heap D5.out.res 1
    have s2 : W3.cell? ⟨ZZ, 2, none⟩ = some (.int .i64 0) := cell_of_heap D5.out.res 2
    have s3 : W3.cell? ⟨ZZ, 3, none⟩ = some (.bool false) := cell_of_heap D5.out.res 3
    have s4 : W3.cell? ⟨ZZ, 4, none⟩ = some (.int .i64 1) := cell_of_heap D5.out.res 4
    have t0 : W3.cell? ⟨w.heap.size + 1, 0, none⟩ = some (.int .i64 0) := cell_of_heap D5.out.out 0
    have g0 : W3.frozen? ⟨w.heap.size + 1, 0, none⟩ = false := frozen_of_heap D5.out.out 0
    have t1 : W3.cell? ⟨w.heap.size + 1, 1, none⟩ = some (.int .i64 0) := cell_of_heap D5.out.out 1
    have g1 : W3.frozen? ⟨w.heap.size + 1, 1, none⟩ = false := frozen_of_heap D5.out.out 1
    have t2 : W3.cell? ⟨w.heap.size + 1, 2, none⟩ = some (.int .i64 0) := cell_of_heap D5.out.out 2
    have g2 : W3.frozen? ⟨w.heap.size + 1, 2, none⟩ = false := frozen_of_heap D5.out.out 2
    have t3 : W3.cell? ⟨w.heap.size + 1, 3, none⟩ = some (.bool false) := cell_of_heap D5.out.out 3
    have g3 : W3.frozen? ⟨w.heap.size + 1, 3, none⟩ = false := frozen_of_heap D5.out.out 3
    have t4 : W3.cell? ⟨w.heap.size + 1, 4, none⟩ = some (.int .i64 0) := cell_of_heap D5.out.out 4
    have g4 : W3.frozen? ⟨w.heap.size + 1, 4, none⟩ = false := frozen_of_heap D5.out.out 4
    go_wp2
    refine bodyPost_ret (v := .agg #[.int .i64 0, .int .i64 0, .int .i64 0, .bool false, .int .i64 1]) (by simp [results, Tryd.results15, go_sem, t0, t1, t2, t3, t4]) rfl ?_
    exact ⟨by rw [hE.out], Below.grownRow D5.out.low (grown_set5 _ _ _ _ _ _ _) (Nat.le_refl _) (fun k hk => by cases hk; omega)⟩
  · have hk : (kd : Int) % 10 = 2 := by omega
    have hE : Hid (nilE (kd % 10) = 1) := by show _ = _; rw [h]; rfl
    clear h h10
    go_wp2_with fail
    refine (dropNil_any _ _).mono ?_
    rintro r w3 ⟨rfl, hb3⟩
    have D4 := Lib.hid (D3.out.later hb3)
    clear hb3 D3 c0 c3 c4 c5
    have q4 : w3.cell? ⟨ZZ, 4, none⟩ = some (.int .i64 0) := cell_of_heap D4.out.res 4
    have f4 : w3.frozen? ⟨ZZ, 4, none⟩ = false := frozen_of_heap D4.out.res 4
    go_upto_region 23 with fail
    have D5 := Lib.hid (D4.out.set 4 (.int .i64 1) #[.int .i64 0, .int .i64 0, .int .i64 0, .bool false, .int .i64 1] rfl)
    generalize (w3.setCell ⟨ZZ, 4, none⟩ (.int .i64 1)) = W3 at *
    clear D4 q4 f4
    have s0 : W3.cell? ⟨ZZ, 0, none⟩ = some (.int .i64 0) := cell_of_heap D5.out.res 0
    have s1 : W3.cell? ⟨ZZ, 1, none⟩ = some (.int .i64 0) := cell_of_heap D5.out.res 1
    have s2 : W3.cell? ⟨ZZ, 2, none⟩ = some (.int .i64 0) := cell_of_heap D5.out.res 2
    have s3 : W3.cell? ⟨ZZ, 3, none⟩ = some (.bool false) := cell_of_heap D5.out.res 3
    have s4 : W3.cell? ⟨ZZ, 4, none⟩ = some (.int .i64 1) := cell_of_heap D5.out.res 4
    have t0 : W3.cell? ⟨w.heap.size + 1, 0, none⟩ = some (.int .i64 0) := cell_of_heap D5.out.out 0
    have g0 : W3.frozen? ⟨w.heap.size + 1, 0, none⟩ = false := frozen_of_heap D5.out.out 0
    have t1 : W3.cell? ⟨w.heap.size + 1, 1, none⟩ = some (.int .i64 0) := cell_of_heap D5.out.out 1
    have g1 : W3.frozen? ⟨w.heap.size + 1, 1, none⟩ = false := frozen_of_heap D5.out.out 1
    have t2 : W3.cell? ⟨w.heap.size + 1, 2, none⟩ = some (.int .i64 0) := cell_of_heap D5.out.out 2
    have g2 : W3.frozen? ⟨w.heap.size + 1, 2, none⟩ = false := frozen_of_heap D5.out.out 2
    have t3 : W3.cell? ⟨w.heap.size + 1, 3, none⟩ = some (.bool false) := cell_of_heap D5.out.out 3
    have g3 : W3.frozen? ⟨w.heap.size + 1, 3, none⟩ = false := frozen_of_heap D5.out.out 3
    have t4 : W3.cell? ⟨w.heap.size + 1, 4, none⟩ = some (.int .i64 0) := cell_of_heap D5.out.out 4
    have g4 : W3.frozen? ⟨w.heap.size + 1, 4, none⟩ = false := frozen_of_heap D5.out.out 4
    go_wp2
    refine bodyPost_ret (v := .agg #[.int .i64 0, .int .i64 0, .int .i64 0, .bool false, .int .i64 1]) (by simp [results, Tryd.results15, go_sem, t0, t1, t2, t3, t4]) rfl ?_
    exact ⟨by rw [hE.out], Below.grownRow D5.out.low (grown_set5 _ _ _ _ _ _ _) (Nat.le_refl _) (fun k hk => by cases hk; omega)⟩
  · have hk : (kd : Int) % 10 = 3 := by omega
    have hE : Hid (nilE (kd % 10) = 1) := by show _ = _; rw [h]; rfl
    clear h h10
    go_wp2_with fail
    refine (execNil_any _ _).mono ?_
    rintro r w3 ⟨rfl, hb3⟩
    have D4 := Lib.hid (D3.out.later hb3)
    clear hb3 D3 c0 c3 c4 c5
    have q4 : w3.cell? ⟨ZZ, 4, none⟩ = some (.int .i64 0) := cell_of_heap D4.out.res 4
    have f4 : w3.frozen? ⟨ZZ, 4, none⟩ = false := frozen_of_heap D4.out.res 4
    go_upto_region 23 with fail
    have D5 := Lib.hid (D4.out.set 4 (.int .i64 1) #[.int .i64 0, .int .i64 0, .int .i64 0, .bool false, .int .i64 1] rfl)
    generalize (w3.setCell ⟨ZZ, 4, none⟩ (.int .i64 1)) = W3 at *
    clear D4 q4 f4
    have s0 : W3.cell? ⟨ZZ, 0, none⟩ = some (.int .i64 0) := cell_of_heap D5.out.res 0
    have s1 : W3.cell? ⟨ZZ, 1, none⟩ = some (.int .i64 0) := cell_of_heap D5.out.res 1
    have s2 : W3.cell? ⟨ZZ, 2, none⟩ = some (.int .i64 0) := cell_of_heap D5.out.res 2
    have s3 : W3.cell? ⟨ZZ, 3, none⟩ = some (.bool false) := cell_of_heap D5.out.res 3
    have s4 : W3.cell? ⟨ZZ, 4, none⟩ = some (.int .i64 1) := cell_of_heap D5.out.res 4
    have t0 : W3.cell? ⟨w.heap.size + 1, 0, none⟩ = some (.int .i64 0) := cell_of_heap D5.out.out 0
    have g0 : W3.frozen? ⟨w.heap.size + 1, 0, none⟩ = false := frozen_of_heap D5.out.out 0
    have t1 : W3.cell? ⟨w.heap.size + 1, 1, none⟩ = some (.int .i64 0) := cell_of_heap D5.out.out 1
    have g1 : W3.frozen? ⟨w.heap.size + 1, 1, none⟩ = false := frozen_of_heap D5.out.out 1
    have t2 : W3.cell? ⟨w.heap.size + 1, 2, none⟩ = some (.int .i64 0) := cell_of_heap D5.out.out 2
    have g2 : W3.frozen? ⟨w.heap.size + 1, 2, none⟩ = false := frozen_of_heap D5.out.out 2
    have t3 : W3.cell? ⟨w.heap.size + 1, 3, none⟩ = some (.bool false) := cell_of_heap D5.out.out 3
    have g3 : W3.frozen? ⟨w.heap.size + 1, 3, none⟩ = false := frozen_of_heap D5.out.out 3
    have t4 : W3.cell? ⟨w.heap.size + 1, 4, none⟩ = some (.int .i64 0) := cell_of_heap D5.out.out 4
    have g4 : W3.frozen? ⟨w.heap.size + 1, 4, none⟩ = false := frozen_of_heap D5.out.out 4
    go_wp2
    refine bodyPost_ret (v := .agg #[.int .i64 0, .int .i64 0, .int .i64 0, .bool false, .int .i64 1]) (by simp [results, Tryd.results15, go_sem, t0, t1, t2, t3, t4]) rfl ?_
    exact ⟨by rw [hE.out], Below.grownRow D5.out.low (grown_set5 _ _ _ _ _ _ _) (Nat.le_refl _) (fun k hk => by cases hk; omega)⟩
  · have hk : (kd : Int) % 10 = 4 := by omega
    have hE : Hid (nilE (kd % 10) = 1) := by show _ = _; rw [h]; rfl
    clear h h10
    go_wp2_with fail
    refine (sendNil_any _ _ _ _).mono ?_
    rintro r w3 ⟨rfl, hb3⟩
    have D4 := Lib.hid (D3.out.later hb3)
    clear hb3 D3 c0 c3 c4 c5
    have q4 : w3.cell? ⟨ZZ, 4, none⟩ = some (.int .i64 0) := cell_of_heap D4.out.res 4
    have f4 : w3.frozen? ⟨ZZ, 4, none⟩ = false := frozen_of_heap D4.out.res 4
    go_upto_region 23 with fail
    have D5 := Lib.hid (D4.out.set 4 (.int .i64 1) #[.int .i64 0, .int .i64 0, .int .i64 0, .bool false, .int .i64 1] rfl)
    generalize (w3.setCell ⟨ZZ, 4, none⟩ (.int .i64 1)) = W3 at *
    clear D4 q4 f4
    have s0 : W3.cell? ⟨ZZ, 0, none⟩ = some (.int .i64 0) := cell_of_heap D5.out.res 0
    have s1 : W3.cell? ⟨ZZ, 1, none⟩ = some (.int .i64 0) := cell_of_heap D5.out.res 1
    have s2 : W3.cell? ⟨ZZ, 2, none⟩ = some (.int .i64 0) := cell_of_heap D5.out.res 2
    have s3 : W3.cell? ⟨ZZ, 3, none⟩ = some (.bool false) := cell_of_heap D5.out.res 3
    have s4 : W3.cell? ⟨ZZ, 4, none⟩ = some (.int .i64 1) := cell_of_heap D5.out.res 4
    have t0 : W3.cell? ⟨w.heap.size + 1, 0, none⟩ = some (.int .i64 0) := cell_of_heap D5.out.out 0
    have g0 : W3.frozen? ⟨w.heap.size + 1, 0, none⟩ = false := frozen_of_heap D5.out.out 0
    have t1 : W3.cell? ⟨w.heap.size + 1, 1, none⟩ = some (.int .i64 0) := cell_of_heap D5.out.out 1
    have g1 : W3.frozen? ⟨w.heap.size + 1, 1, none⟩ = false := frozen_of_heap D5.out.out 1
    have t2 : W3.cell? ⟨w.heap.size + 1, 2, none⟩ = some (.int .i64 0) := cell_of_heap D5.out.out 2
    have g2 : W3.frozen? ⟨w.heap.size + 1, 2, none⟩ = false := frozen_of_heap D5.out.out 2
    have t3 : W3.cell? ⟨w.heap.size + 1, 3, none⟩ = some (.bool false) := cell_of_heap D5.out.out 3
    have g3 : W3.frozen? ⟨w.heap.size + 1, 3, none⟩ = false := frozen_of_heap D5.out.out 3
    have t4 : W3.cell? ⟨w.heap.size + 1, 4, none⟩ = some (.int .i64 0) := cell_of_heap D5.out.out 4
    have g4 : W3.frozen? ⟨w.heap.size + 1, 4, none⟩ = false := frozen_of_heap D5.out.out 4
    go_wp2
    refine bodyPost_ret (v := .agg #[.int .i64 0, .int .i64 0, .int .i64 0, .bool false, .int .i64 1]) (by simp [results, Tryd.results15, go_sem, t0, t1, t2, t3, t4]) rfl ?_
    exact ⟨by rw [hE.out], Below.grownRow D5.out.low (grown_set5 _ _ _ _ _ _ _) (Nat.le_refl _) (fun k hk => by cases hk; omega)⟩
  · have hk : (kd : Int) % 10 = 5 := by omega
    have hE : Hid (nilE (kd % 10) = 1) := by show _ = _; rw [h]; rfl
    clear h h10
    go_wp2_with fail
    refine (handlerNil_any _ _ _ _).mono ?_
    rintro r w3 ⟨rfl, hb3⟩
    have D4 := Lib.hid (D3.out.later hb3)
    clear hb3 D3 c0 c3 c4 c5
    have q4 : w3.cell? ⟨ZZ, 4, none⟩ = some (.int .i64 0) := cell_of_heap D4.out.res 4
    have f4 : w3.frozen? ⟨ZZ, 4, none⟩ = false := frozen_of_heap D4.out.res 4
    go_upto_region 23 with fail
    have D5 := Lib.hid (D4.out.set 4 (.int .i64 1) #[.int .i64 0, .int .i64 0, .int .i64 0, .bool false, .int .i64 1] rfl)
    generalize (w3.setCell ⟨ZZ, 4, none⟩ (.int .i64 1)) = W3 at *
    clear D4 q4 f4
    have s0 : W3.cell? ⟨ZZ, 0, none⟩ = some (.int .i64 0) := cell_of_heap D5.out.res 0
    have s1 : W3.cell? ⟨ZZ, 1, none⟩ = some (.int .i64 0) := cell_of_heap D5.out.res 1
    have s2 : W3.cell? ⟨ZZ, 2, none⟩ = some (.int .i64 0) := cell_of_heap D5.out.res 2
    have s3 : W3.cell? ⟨ZZ, 3, none⟩ = some (.bool false) := cell_of_heap D5.out.res 3
    have s4 : W3.cell? ⟨ZZ, 4, none⟩ = some (.int .i64 1) := cell_of_heap D5.out.res 4
    have t0 : W3.cell? ⟨w.heap.size + 1, 0, none⟩ = some (.int .i64 0) := cell_of_heap D5.out.out 0
    have g0 : W3.frozen? ⟨w.heap.size + 1, 0, none⟩ = false := frozen_of_heap D5.out.out 0
    have t1 : W3.cell? ⟨w.heap.size + 1, 1, none⟩ = some (.int .i64 0) := cell_of_heap D5.out.out 1
    have g1 : W3.frozen? ⟨w.heap.size + 1, 1, none⟩ = false := frozen_of_heap D5.out.out 1
    have t2 : W3.cell? ⟨w.heap.size + 1, 2, none⟩ = some (.int .i64 0) := cell_of_heap D5.out.out 2
    have g2 : W3.frozen? ⟨w.heap.size + 1, 2, none⟩ = false := frozen_of_heap D5.out.out 2
    have t3 : W3.cell? ⟨w.heap.size + 1, 3, none⟩ = some (.bool false) := cell_of_heap D5.out.out 3
    have g3 : W3.frozen? ⟨w.heap.size + 1, 3, none⟩ = false := frozen_of_heap D5.out.out 3
    have t4 : W3.cell? ⟨w.heap.size + 1, 4, none⟩ = some (.int .i64 0) := cell_of_heap D5.out.out 4
    have g4 : W3.frozen? ⟨w.heap.size + 1, 4, none⟩ = false := frozen_of_heap D5.out.out 4
    go_wp2
    refine bodyPost_ret (v := .agg #[.int .i64 0, .int .i64 0, .int .i64 0, .bool false, .int .i64 1]) (by simp [results, Tryd.results15, go_sem, t0, t1, t2, t3, t4]) rfl ?_
    exact ⟨by rw [hE.out], Below.grownRow D5.out.low (grown_set5 _ _ _ _ _ _ _) (Nat.le_refl _) (fun k hk => by cases hk; omega)⟩
  · have hk : (kd : Int) % 10 = 6 := by omega
    have hE : Hid (nilE (kd % 10) = 1) := by show _ = _; rw [h]; rfl
    clear h h10
    go_wp2_with fail
    refine (ignoredNil_any _ _ _ _).mono ?_
    rintro r w3 ⟨rfl, hb3⟩
    have D4 := Lib.hid (D3.out.later hb3)
    clear hb3 D3 c0 c3 c4 c5
    have q4 : w3.cell? ⟨ZZ, 4, none⟩ = some (.int .i64 0) := cell_of_heap D4.out.res 4
    have f4 : w3.frozen? ⟨ZZ, 4, none⟩ = false := frozen_of_heap D4.out.res 4
    go_upto_region 23 with fail
    have D5 := Lib.hid (D4.out.set 4 (.int .i64 1) #[.int .i64 0, .int .i64 0, .int .i64 0, .bool false, .int .i64 1] rfl)
    generalize (w3.setCell ⟨ZZ, 4, none⟩ (.int .i64 1)) = W3 at *
    clear D4 q4 f4
    have s0 : W3.cell? ⟨ZZ, 0, none⟩ = some (.int .i64 0) := cell_of_heap D5.out.res 0
    have s1 : W3.cell? ⟨ZZ, 1, none⟩ = some (.int .i64 0) := cell_of_heap D5.out.res 1
    have s2 : W3.cell? ⟨ZZ, 2, none⟩ = some (.int .i64 0) := cell_of_heap D5.out.res 2
    have s3 : W3.cell? ⟨ZZ, 3, none⟩ = some (.bool false) := cell_of_heap D5.out.res 3
    have s4 : W3.cell? ⟨ZZ, 4, none⟩ = some (.int .i64 1) := cell_of_heap D5.out.res 4
    have t0 : W3.cell? ⟨w.heap.size + 1, 0, none⟩ = some (.int .i64 0) := cell_of_heap D5.out.out 0
    have g0 : W3.frozen? ⟨w.heap.size + 1, 0, none⟩ = false := frozen_of_heap D5.out.out 0
    have t1 : W3.cell? ⟨w.heap.size + 1, 1, none⟩ = some (.int .i64 0) := cell_of_heap D5.out.out 1
    have g1 : W3.frozen? ⟨w.heap.size + 1, 1, none⟩ = false := frozen_of_heap D5.out.out 1
    have t2 : W3.cell? ⟨w.heap.size + 1, 2, none⟩ = some (.int .i64 0) := cell_of_heap D5.out.out 2
    have g2 : W3.frozen? ⟨w.heap.size + 1, 2, none⟩ = false := frozen_of_heap D5.out.out 2
    have t3 : W3.cell? ⟨w.heap.size + 1, 3, none⟩ = some (.bool false) := cell_of_heap D5.out.out 3
    have g3 : W3.frozen? ⟨w.heap.size + 1, 3, none⟩ = false := frozen_of_heap D5.out.out 3
    have t4 : W3.cell? ⟨w.heap.size + 1, 4, none⟩ = some (.int .i64 0) := cell_of_heap D5.out.out 4
    have g4 : W3.frozen? ⟨w.heap.size + 1, 4, none⟩ = false := frozen_of_heap D5.out.out 4
    go_wp2
    refine bodyPost_ret (v := .agg #[.int .i64 0, .int .i64 0, .int .i64 0, .bool false, .int .i64 1]) (by simp [results, Tryd.results15, go_sem, t0, t1, t2, t3, t4]) rfl ?_
    exact ⟨by rw [hE.out], Below.grownRow D5.out.low (grown_set5 _ _ _ _ _ _ _) (Nat.le_refl _) (fun k hk => by cases hk; omega)⟩
  · have hk : (kd : Int) % 10 = 7 := by omega
    have hE : Hid (nilE (kd % 10) = 1) := by show _ = _; rw [h]; rfl
    clear h h10
    go_wp2_with fail
    refine (blockedNil_any _ _ _).mono ?_
    rintro r w3 ⟨rfl, hb3⟩
    have D4 := Lib.hid (D3.out.later hb3)
    clear hb3 D3 c0 c3 c4 c5
    have q4 : w3.cell? ⟨ZZ, 4, none⟩ = some (.int .i64 0) := cell_of_heap D4.out.res 4
    have f4 : w3.frozen? ⟨ZZ, 4, none⟩ = false := frozen_of_heap D4.out.res 4
    go_upto_region 23 with fail
    have D5 := Lib.hid (D4.out.set 4 (.int .i64 1) #[.int .i64 0, .int .i64 0, .int .i64 0, .bool false, .int .i64 1] rfl)
    generalize (w3.setCell ⟨ZZ, 4, none⟩ (.int .i64 1)) = W3 at *
    clear D4 q4 f4
    have s0 : W3.cell? ⟨ZZ, 0, none⟩ = some (.int .i64 0) := cell_of_heap D5.out.res 0
    have s1 : W3.cell? ⟨ZZ, 1, none⟩ = some (.int .i64 0) := cell_of_heap D5.out.res 1
    have s2 : W3.cell? ⟨ZZ, 2, none⟩ = some (.int .i64 0) := cell_of_heap D5.out.res 2
    have s3 : W3.cell? ⟨ZZ, 3, none⟩ = some (.bool false) := cell_of_heap D5.out.res 3
    have s4 : W3.cell? ⟨ZZ, 4, none⟩ = some (.int .i64 1) := cell_of_heap D5.out.res 4
    have t0 : W3.cell? ⟨w.heap.size + 1, 0, none⟩ = some (.int .i64 0) := cell_of_heap D5.out.out 0
    have g0 : W3.frozen? ⟨w.heap.size + 1, 0, none⟩ = false := frozen_of_heap D5.out.out 0
    have t1 : W3.cell? ⟨w.heap.size + 1, 1, none⟩ = some (.int .i64 0) := cell_of_heap D5.out.out 1
    have g1 : W3.frozen? ⟨w.heap.size + 1, 1, none⟩ = false := frozen_of_heap D5.out.out 1
    have t2 : W3.cell? ⟨w.heap.size + 1, 2, none⟩ = some (.int .i64 0) := cell_of_heap D5.out.out 2
    have g2 : W3.frozen? ⟨w.heap.size + 1, 2, none⟩ = false := frozen_of_heap D5.out.out 2
    have t3 : W3.cell? ⟨w.heap.size + 1, 3, none⟩ = some (.bool false) := cell_of_heap D5.out.out 3
    have g3 : W3.frozen? ⟨w.heap.size + 1, 3, none⟩ = false := frozen_of_heap D5.out.out 3
    have t4 : W3.cell? ⟨w.heap.size + 1, 4, none⟩ = some (.int .i64 0) := cell_of_heap D5.out.out 4
    have g4 : W3.frozen? ⟨w.heap.size + 1, 4, none⟩ = false := frozen_of_heap D5.out.out 4
    go_wp2
    refine bodyPost_ret (v := .agg #[.int .i64 0, .int .i64 0, .int .i64 0, .bool false, .int .i64 1]) (by simp [results, Tryd.results15, go_sem, t0, t1, t2, t3, t4]) rfl ?_
    exact ⟨by rw [hE.out], Below.grownRow D5.out.low (grown_set5 _ _ _ _ _ _ _) (Nat.le_refl _) (fun k hk => by cases hk; omega)⟩
  · have hk : (kd : Int) % 10 = 8 := by omega
    have hE : Hid (nilE (kd % 10) = 1) := by show _ = _; rw [h]; rfl
    clear h h10
    go_wp2_with fail
    refine (takeNil_any _ _).mono ?_
    rintro r w3 ⟨rfl, hb3⟩
    have D4 := Lib.hid (D3.out.later hb3)
    clear hb3 D3 c0 c3 c4 c5
    have q0 : w3.cell? ⟨ZZ, 0, none⟩ = some (.int .i64 0) := cell_of_heap D4.out.res 0
    have f0 : w3.frozen? ⟨ZZ, 0, none⟩ = false := frozen_of_heap D4.out.res 0
    have q1 : w3.cell? ⟨ZZ, 1, none⟩ = some (.int .i64 0) := cell_of_heap D4.out.res 1
    have f1 : w3.frozen? ⟨ZZ, 1, none⟩ = false := frozen_of_heap D4.out.res 1
    have q2 : w3.cell? ⟨ZZ, 2, none⟩ = some (.int .i64 0) := cell_of_heap D4.out.res 2
    have f2 : w3.frozen? ⟨ZZ, 2, none⟩ = false := frozen_of_heap D4.out.res 2
    have q4 : w3.cell? ⟨ZZ, 4, none⟩ = some (.int .i64 0) := cell_of_heap D4.out.res 4
    have f4 : w3.frozen? ⟨ZZ, 4, none⟩ = false := frozen_of_heap D4.out.res 4
    go_upto_region 23 with fail
    have D5 := Lib.hid ((((D4.out.set 0 (.int .i64 0) #[.int .i64 0, .int .i64 0, .int .i64 0, .bool false, .int .i64 0] rfl).set 1 (.int .i64 0) #[.int .i64 0, .int .i64 0, .int .i64 0, .bool false, .int .i64 0] rfl).set 2 (.int .i64 0) #[.int .i64 0, .int .i64 0, .int .i64 0, .bool false, .int .i64 0] rfl).set 4 (.int .i64 1) #[.int .i64 0, .int .i64 0, .int .i64 0, .bool false, .int .i64 1] rfl)
    generalize ((((w3.setCell ⟨ZZ, 0, none⟩ (.int .i64 0)).setCell ⟨ZZ, 1, none⟩ (.int .i64 0)).setCell ⟨ZZ, 2, none⟩ (.int .i64 0)).setCell ⟨ZZ, 4, none⟩ (.int .i64 1)) = W3 at *
    clear D4 q0 f0 q1 f1 q2 f2 q4 f4
    have s0 : W3.cell? ⟨ZZ, 0, none⟩ = some (.int .i64 0) := cell_of_heap D5.out.res 0
    have s1 : W3.cell? ⟨ZZ, 1, none⟩ = some (.int .i64 0) := cell_of_heap D5.out.res 1
    have s2 : W3.cell? ⟨ZZ, 2, none⟩ = some (.int .i64 0) := cell_of_heap D5.out.res 2
    have s3 : W3.cell? ⟨ZZ, 3, none⟩ = some (.bool false) := cell_of_heap D5.out.res 3
    have s4 : W3.cell? ⟨ZZ, 4, none⟩ = some (.int .i64 1) := cell_of_heap D5.out.res 4
    have t0 : W3.cell? ⟨w.heap.size + 1, 0, none⟩ = some (.int .i64 0) := cell_of_heap D5.out.out 0
    have g0 : W3.frozen? ⟨w.heap.size + 1, 0, none⟩ = false := frozen_of_heap D5.out.out 0
    have t1 : W3.cell? ⟨w.heap.size + 1, 1, none⟩ = some (.int .i64 0) := cell_of_heap D5.out.out 1
    have g1 : W3.frozen? ⟨w.heap.size + 1, 1, none⟩ = false := frozen_of_heap D5.out.out 1
    have t2 : W3.cell? ⟨w.heap.size + 1, 2, none⟩ = some (.int .i64 0) := cell_of_heap D5.out.out 2
    have g2 : W3.frozen? ⟨w.heap.size + 1, 2, none⟩ = false := frozen_of_heap D5.out.out 2
    have t3 : W3.cell? ⟨w.heap.size + 1, 3, none⟩ = some (.bool false) := cell_of_heap D5.out.out 3
    have g3 : W3.frozen? ⟨w.heap.size + 1, 3, none⟩ = false := frozen_of_heap D5.out.out 3
    have t4 : W3.cell? ⟨w.heap.size + 1, 4, none⟩ = some (.int .i64 0) := cell_of_heap D5.out.out 4
    have g4 : W3.frozen? ⟨w.heap.size + 1, 4, none⟩ = false := frozen_of_heap D5.out.out 4
    go_wp2
    refine bodyPost_ret (v := .agg #[.int .i64 0, .int .i64 0, .int .i64 0, .bool false, .int .i64 1]) (by simp [results, Tryd.results15, go_sem, t0, t1, t2, t3, t4]) rfl ?_
    exact ⟨by rw [hE.out], Below.grownRow D5.out.low (grown_set5 _ _ _ _ _ _ _) (Nat.le_refl _) (fun k hk => by cases hk; omega)⟩
  · have hk : (kd : Int) % 10 = 9 := by omega
    have hE : Hid (nilE (kd % 10) = 0) := by show _ = _; rw [h]; rfl
    clear h h10
    go_wp2_with fail
    refine (waitingNil_any _ _).mono ?_
    rintro r w3 ⟨rfl, hb3⟩
    have D4 := Lib.hid (D3.out.later hb3)
    clear hb3 D3 c0 c3 c4 c5
    have q3 : w3.cell? ⟨ZZ, 3, none⟩ = some (.bool false) := cell_of_heap D4.out.res 3
    have f3 : w3.frozen? ⟨ZZ, 3, none⟩ = false := frozen_of_heap D4.out.res 3
    go_upto_region 23 with fail
    have D5 := Lib.hid (D4.out.set 3 (.bool false) #[.int .i64 0, .int .i64 0, .int .i64 0, .bool false, .int .i64 0] rfl)
    generalize (w3.setCell ⟨ZZ, 3, none⟩ (.bool false)) = W3 at *
    clear D4 q3 f3
    have s0 : W3.cell? ⟨ZZ, 0, none⟩ = some (.int .i64 0) := cell_of_heap D5.out.res 0
    have s1 : W3.cell? ⟨ZZ, 1, none⟩ = some (.int .i64 0) := cell_of_heap D5.out.res 1
    have s2 : W3.cell? ⟨ZZ, 2, none⟩ = some (.int .i64 0) := cell_of_heap D5.out.res 2
    have s3 : W3.cell? ⟨ZZ, 3, none⟩ = some (.bool false) := cell_of_heap D5.out.res 3
    have s4 : W3.cell? ⟨ZZ, 4, none⟩ = some (.int .i64 0) := cell_of_heap D5.out.res 4
    have t0 : W3.cell? ⟨w.heap.size + 1, 0, none⟩ = some (.int .i64 0) := cell_of_heap D5.out.out 0
    have g0 : W3.frozen? ⟨w.heap.size + 1, 0, none⟩ = false := frozen_of_heap D5.out.out 0
    have t1 : W3.cell? ⟨w.heap.size + 1, 1, none⟩ = some (.int .i64 0) := cell_of_heap D5.out.out 1
    have g1 : W3.frozen? ⟨w.heap.size + 1, 1, none⟩ = false := frozen_of_heap D5.out.out 1
    have t2 : W3.cell? ⟨w.heap.size + 1, 2, none⟩ = some (.int .i64 0) := cell_of_heap D5.out.out 2
    have g2 : W3.frozen? ⟨w.heap.size + 1, 2, none⟩ = false := frozen_of_heap D5.out.out 2
    have t3 : W3.cell? ⟨w.heap.size + 1, 3, none⟩ = some (.bool false) := cell_of_heap D5.out.out 3
    have g3 : W3.frozen? ⟨w.heap.size + 1, 3, none⟩ = false := frozen_of_heap D5.out.out 3
    have t4 : W3.cell? ⟨w.heap.size + 1, 4, none⟩ = some (.int .i64 0) := cell_of_heap D5.out.out 4
    have g4 : W3.frozen? ⟨w.heap.size + 1, 4, none⟩ = false := frozen_of_heap D5.out.out 4
    go_wp2
    refine bodyPost_ret (v := .agg #[.int .i64 0, .int .i64 0, .int .i64 0, .bool false, .int .i64 0]) (by simp [results, Tryd.results15, go_sem, t0, t1, t2, t3, t4]) rfl ?_
    exact ⟨by rw [hE.out], Below.grownRow D5.out.low (grown_set5 _ _ _ _ _ _ _) (Nat.le_refl _) (fun k hk => by cases hk; omega)⟩
end Go.Proofs.YtemmeopaihmlcaaDoor
