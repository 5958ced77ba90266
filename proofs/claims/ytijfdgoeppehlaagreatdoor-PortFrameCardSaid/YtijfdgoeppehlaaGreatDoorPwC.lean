/- Law 37: an operation upon a view whose value is known. (printed by wip/gen_pc.py) Law 37: Get's operation; any operation upon a view whose value is known. -/
import Derived.Test.YtijfdgoeppehlaaGreatDoorPwA
import Derived.Test.YtijfdgoeppehlaaGreatDoorPorN
namespace Go.Proofs.YtijfdgoeppehlaaGreatDoor
open Go.RowKit
attribute [local go_sem ↓] Go.wp_at_zero Go.wp_at_succ

def OwnP (H : Nat) (k : Nat) : Prop := k = H ∨ k = H + 1 ∨ k = H + 1 + 1
/-- In the midst of call. -/
structure CP (w0 w W : World) (b : Nat) (N : NV) (m : Int) (o : Option PortT) (G : Nat → Prop) (opc rc : Array Value) : Prop where
  s : SW w0 W b N m o (fun k => G k ∨ OwnP w.heap.size k)
  hk : ∀ k, G k → W.heap[k]? = w.heap[k]?
  op : W.heap[w.heap.size]? = some (.cells opc 35 (0, 0))
  out : W.heap[w.heap.size + 1]? = some (.cells #[.string ⟨#[]⟩, .string ⟨#[]⟩, .string ⟨#[]⟩, .int .i64 0] 42 (0, 0))
  res : W.heap[w.heap.size + 1 + 1]? = some (.cells rc 42 (0, 0))
section
variable {w0 w W W' : World} {b : Nat} {N N' : NV} {m : Int} {o o' : Option PortT} {G : Nat → Prop} {opc rc : Array Value}
theorem CP.start (s : SW w0 w b N m o G) (opc : Array Value) : CP w0 w (((w.alloc (.cells opc 35)).alloc (.cells #[.string ⟨#[]⟩, .string ⟨#[]⟩, .string ⟨#[]⟩, .int .i64 0] 42)).alloc (.cells #[.string ⟨#[]⟩, .string ⟨#[]⟩, .string ⟨#[]⟩, .int .i64 0] 42)) b N m o G opc #[.string ⟨#[]⟩, .string ⟨#[]⟩, .string ⟨#[]⟩, .int .i64 0] where
  s := s.fresh ((((Below.refl _ _).alloc (Nat.le_refl _) _).alloc (by simp) _).alloc (by simp; omega) _) (fun k hk => hk.imp id (fun h => by rcases h with h | h | h <;> subst h <;> simp <;> omega))
  hk := s.gk ((((Below.refl _ _).alloc (Nat.le_refl _) _).alloc (by simp) _).alloc (by simp; omega) _)
  op := (Below.heap_alloc _ _ _ (by simp; omega)).trans ((Below.heap_alloc _ _ _ (by simp)).trans (World.alloc_heap_new w _))
  out := by
    have h := World.alloc_heap_new (w.alloc (.cells opc 35)) (.cells #[.string ⟨#[]⟩, .string ⟨#[]⟩, .string ⟨#[]⟩, .int .i64 0] 42)
    rw [World.size_alloc] at h
    exact (Below.heap_alloc _ _ _ (by simp)).trans h
  res := by
    have h := World.alloc_heap_new ((w.alloc (.cells opc 35)).alloc (.cells #[.string ⟨#[]⟩, .string ⟨#[]⟩, .string ⟨#[]⟩, .int .i64 0] 42)) (.cells #[.string ⟨#[]⟩, .string ⟨#[]⟩, .string ⟨#[]⟩, .int .i64 0] 42)
    rw [World.size_alloc, World.size_alloc] at h
    exact h
theorem CP.glt (h : CP w0 w W b N m o G opc rc) {k : Nat} (hk : G k) : k < W.heap.size := h.s.glt k (.inl hk)
theorem CP.later (h : CP w0 w W b N m o G opc rc) (hb : Below W.heap.size W W') : CP w0 w W' b N m o G opc rc :=
  ⟨h.s.later hb, fun k hk => (hb.block _ (h.glt hk)).trans (h.hk k hk), (hb.block _ (lt_of_heap h.op)).trans h.op, (hb.block _ (lt_of_heap h.out)).trans h.out, (hb.block _ (lt_of_heap h.res)).trans h.res⟩
theorem CP.drew (h : CP w0 w W b N m o G opc rc) : CP w0 w W.drew b N m o G opc rc := h.later (Below.refl _ _).drew
theorem CP.step (h : CP w0 w W b N m o G opc rc) (s : SW w0 W' b N' m o' (fun k => G k ∨ OwnP w.heap.size k)) (hk : ∀ k, (G k ∨ OwnP w.heap.size k) → W'.heap[k]? = W.heap[k]?) : CP w0 w W' b N' m o' G opc rc :=
  ⟨s, fun k hG => (hk k (.inl hG)).trans (h.hk k hG), (hk _ (.inr (.inl rfl))).trans h.op, (hk _ (.inr (.inr (.inl rfl)))).trans h.out, (hk _ (.inr (.inr (.inr rfl)))).trans h.res⟩
theorem CP.set (h : CP w0 w W b N m o G opc rc) (hG : ∀ k, G k → k < w.heap.size) (i : Nat) (v : Value) (rc' : Array Value) (he : rc.setIfInBounds i v = rc') : CP w0 w (W.setCell ⟨w.heap.size + 1 + 1, i, none⟩ v) b N m o G opc rc' where
  s := h.s.guarded (Kept.of_grown (grown_setCell W (w.heap.size + 1 + 1) i v) _ (fun k hk => by cases hk; exact .inr (.inr (.inr rfl)))) (fun k hk => .inl hk)
  hk := fun k hk => (Below.heap_setCell _ _ _ _ (by show k ≠ w.heap.size + 1 + 1; have := hG k hk; omega)).trans (h.hk k hk)
  op := (Below.heap_setCell _ _ _ _ (by show w.heap.size ≠ w.heap.size + 1 + 1; omega)).trans h.op
  out := (Below.heap_setCell _ _ _ _ (by show w.heap.size + 1 ≠ w.heap.size + 1 + 1; omega)).trans h.out
  res := by rw [← he]; exact heap_setCell_same h.res i v
theorem CP.six {kd wh us : Nat} {nu ep : Int} {sr by_ : ByteArray} (h : CP w0 w W b N m o G #[.int .u8 kd, .int .u8 wh, .int .u8 us, .int .i64 nu, .int .i64 ep, .string sr, .string by_] rc) : W.cell? ⟨w.heap.size, 1, none⟩ = some (.int .u8 wh) ∧ W.cell? ⟨w.heap.size, 2, none⟩ = some (.int .u8 us) ∧ W.cell? ⟨w.heap.size, 3, none⟩ = some (.int .i64 nu) ∧ W.cell? ⟨w.heap.size, 4, none⟩ = some (.int .i64 ep) ∧ W.cell? ⟨w.heap.size, 5, none⟩ = some (.string sr) ∧ W.cell? ⟨w.heap.size, 6, none⟩ = some (.string by_) :=
  ⟨cell_of_heap h.op 1, cell_of_heap h.op 2, cell_of_heap h.op 3, cell_of_heap h.op 4, cell_of_heap h.op 5, cell_of_heap h.op 6⟩
theorem CP.post (h : CP w0 w W b N m o G opc rc) (hG : ∀ k, G k → k < w.heap.size) (hg : W.grownBy W' (some (w.heap.size + 1))) (v : Value) : SWP w0 b N m o G w v (.returned v) W' :=
  ⟨rfl, h.s.guarded (Kept.of_grown hg _ (fun k hk => by cases hk; exact .inr (.inr (.inl rfl)))) (fun k hk => .inl (.inl hk)), fun k hk => (hg.block k (h.glt hk) (fun e => by have := Option.some.inj e; have := hG k hk; omega)).trans (h.hk k hk)⟩
end
structure PRes where
  x : PackT
  t : ByteArray
  e : Nat
def presCells (r : PRes) : Array Value := #[.string r.x.src, .string r.x.bytes, .string r.t, .int .i64 r.e]
def getW (m e : Int) (o : Option PortT) : Option PortT × PRes × Nat := if qArgs ⟨#[]⟩ m e ≠ 0 then (o, ⟨zeroPk, ⟨#[]⟩, qArgs ⟨#[]⟩ m e⟩, 0) else (o, ⟨zeroPk, if (qHas e o).2 = 0 then strOf (encQB (qHas e o).1) else ⟨#[]⟩, (qHas e o).2⟩, 1)
/-- What an operation makes of its port, what it returns, and whether it asked and wrote. -/
def pCallW (kd wh us : Nat) (nu ep : Int) (sr by_ : ByteArray) (o : Option PortT) : Option PortT × PRes × Nat :=
  if kd % 5 = 0 then ((openW (whoN wh) ((us : Int) % 3) nu ep o).1, ⟨zeroPk, ⟨#[]⟩, (openW (whoN wh) ((us : Int) % 3) nu ep o).2.1⟩, (openW (whoN wh) ((us : Int) % 3) nu ep o).2.2) else
  if kd % 5 = 1 then ((closeW (whoN wh) nu ep o).1, ⟨zeroPk, ⟨#[]⟩, (closeW (whoN wh) nu ep o).2.1⟩, (closeW (whoN wh) nu ep o).2.2) else
  if kd % 5 = 2 then ((arriveW ⟨cut sr 60, cut by_ 600⟩ nu ep o).1, ⟨zeroPk, ⟨#[]⟩, (arriveW ⟨cut sr 60, cut by_ 600⟩ nu ep o).2.1⟩, (arriveW ⟨cut sr 60, cut by_ 600⟩ nu ep o).2.2) else
  if kd % 5 = 3 then ((receiveW (whoN wh) nu ep o).1, ⟨(receiveW (whoN wh) nu ep o).2.1, ⟨#[]⟩, (receiveW (whoN wh) nu ep o).2.2.1⟩, (receiveW (whoN wh) nu ep o).2.2.2) else getW nu ep o

theorem wrap_mod3 (us : Nat) : ((us : Int) % 3) = IntKind.i64.wrap ((us : Int).tmod 3) := by
  have h : (us : Int).tmod 3 = ((us % 3 : Nat) : Int) := rfl
  have h3 : us % 3 < 3 := Nat.mod_lt _ (by omega)
  rw [h]
  generalize hk : us % 3 = k at *
  have : ((us : Int) % 3) = (k : Int) := by omega
  rw [this]
  match k, h3 with
  | 0, _ => rfl
  | 1, _ => rfl
  | 2, _ => rfl
set_option maxRecDepth 100000 in
set_option maxHeartbeats 400000 in
/-- Get with arguments that are refused. -/
theorem getBad_any (b : Nat) (m e : Int) (q : Nat) (hq : qArgs ⟨#[]⟩ m e = q) (h0 : q ≠ 0) (w : World) :
    Calls Tryz.prog 29 #[.pointer (some ⟨b, 0, none⟩), .int .i64 m, .int .i64 e] w fun r w' => r = .returned (.tuple #[.agg #[.string ⟨#[]⟩, .int .i64 0, .int .i64 0, .slice none 0 0], .int .i64 q]) ∧ Below w.heap.size w w' := by
  have Hq := Lib.hid hq; clear hq
  have HR0 : Hid (∀ o', (w.alloc o').heap[w.heap.size]? = some o') := fun o' => heap_alloc_new w o'
  have HB0 : Hid (∀ o', Below w.heap.size w (w.alloc o')) := fun o' => (Below.refl _ _).alloc (Nat.le_refl _) _
  have hq1 : ((q : Int) != 0) = true := bne_iff_ne.2 (by omega)
  have hq2 : ((q : Int) == 0) = false := beq_eq_false_iff_ne.2 (by omega)
  clear h0
  go_enter Tryz.func29, Tryz.ntmps29
  go_wp2_with fail
  refine (qCheck_any b ⟨#[]⟩ m e q Hq.out _ (by decide)).mono ?_
  rintro r w1 ⟨rfl, hb⟩
  have hR1 := (hb.block _ (lt_of_heap (HR0.out _))).trans (HR0.out _)
  have HB1 : Hid (Below w.heap.size w w1) := (HB0.out _).trans (hb.mono (HB0.out _).size)
  clear hb HR0 HB0
  obtain ⟨R, hRw⟩ : ∃ R, w.heap.size = R := ⟨_, rfl⟩
  rw [hRw] at hR1 HB1
  rw [hRw]
  have HRw := Lib.hid hRw
  clear hRw
  have r0 : w1.cell? ⟨R, 0, none⟩ = some (.string ⟨#[]⟩) := cell_of_heap hR1 0
  have r1 : w1.cell? ⟨R, 1, none⟩ = some (.int .i64 0) := cell_of_heap hR1 1
  have r2 : w1.cell? ⟨R, 2, none⟩ = some (.int .i64 0) := cell_of_heap hR1 2
  have r3 : w1.cell? ⟨R, 3, none⟩ = some (.slice none 0 0) := cell_of_heap hR1 3
  have g0 : w1.frozen? ⟨R, 0, none⟩ = false := frozen_of_heap hR1 0
  have g1 : w1.frozen? ⟨R, 1, none⟩ = false := frozen_of_heap hR1 1
  have g2 : w1.frozen? ⟨R, 2, none⟩ = false := frozen_of_heap hR1 2
  have g3 : w1.frozen? ⟨R, 3, none⟩ = false := frozen_of_heap hR1 3
  clear hR1
  go_wp2
  refine bodyPost_ret (v := .tuple #[.agg #[.string ⟨#[]⟩, .int .i64 0, .int .i64 0, .slice none 0 0], .int .i64 q]) (by simp [results, Tryz.results29, go_sem, r0, r1, r2, r3]) rfl ?_
  refine ⟨rfl, ?_⟩
  have hw : Below w.heap.size w w1 := by rw [HRw.out]; exact HB1.out
  exact Below.grownRow hw (grown_set4 _ _ _ _ _ _) (Nat.le_refl _) (fun k hk => by cases hk; exact Nat.le_of_eq HRw.out)

set_option maxRecDepth 100000 in
set_option maxHeartbeats 1600000 in
theorem pw_open {w0 w : World} {b : Nat} {N : NV} {o : Option PortT} {G : Nat → Prop} (kd wh us : Nat) (nu ep : Int) (sr by_ : ByteArray) (s : SW w0 w b N nu o G) (hN : N.V.calls.length < 1000000) (hwh : wh ≤ 255) (o' : Option PortT) (q d : Nat) (hk : kd % 5 = 0) (hst : openW (whoN wh) ((us : Int) % 3) nu ep o = (o', q, d)) :
    Calls Tryz.prog 12 #[.agg #[.int .u8 kd, .int .u8 wh, .int .u8 us, .int .i64 nu, .int .i64 ep, .string sr, .string by_], .pointer (some ⟨b, 0, none⟩)] w (SWP w0 b (N.step nu d o') nu o' G w (.agg #[.string ⟨#[]⟩, .string ⟨#[]⟩, .string ⟨#[]⟩, .int .i64 q])) := by
  have HGl : Hid (∀ k, G k → k < w.heap.size) := s.glt
  have D0 := Lib.hid (CP.start s #[.int .u8 kd, .int .u8 wh, .int .u8 us, .int .i64 nu, .int .i64 ep, .string sr, .string by_])
  have Hst := Lib.hid hst
  have hk' : (kd : Int) % 5 = 0 := by omega
  clear hk s hst
  go_enter Tryz.func12, Tryz.ntmps12
  go_wp2_with fail
  generalize ((w.alloc (.cells #[.int .u8 kd, .int .u8 wh, .int .u8 us, .int .i64 nu, .int .i64 ep, .string sr, .string by_] 35)).alloc (.cells #[.string ⟨#[]⟩, .string ⟨#[]⟩, .string ⟨#[]⟩, .int .i64 0] 42)).alloc (.cells #[.string ⟨#[]⟩, .string ⟨#[]⟩, .string ⟨#[]⟩, .int .i64 0] 42) = W at *
  obtain ⟨c1, c2, c3, c4, c5, c6⟩ := D0.out.six
  have Dd := Lib.hid D0.out.drew
  clear D0
  go_region_held3 (fun w' => w'.cell? ⟨w.heap.size, 1, none⟩ = some (.int .u8 wh) ∧ w'.cell? ⟨w.heap.size, 2, none⟩ = some (.int .u8 us) ∧ w'.cell? ⟨w.heap.size, 3, none⟩ = some (.int .i64 nu) ∧ w'.cell? ⟨w.heap.size, 4, none⟩ = some (.int .i64 ep) ∧ w'.cell? ⟨w.heap.size, 5, none⟩ = some (.string sr) ∧ w'.cell? ⟨w.heap.size, 6, none⟩ = some (.string by_)) (first | with_reducible exact ⟨c1, c2, c3, c4, c5, c6⟩ | with_reducible exact D1.out.six | with_reducible exact D2.out.six | with_reducible exact (D2.out.set HGl.out 3 (.int .i64 q) #[.string ⟨#[]⟩, .string ⟨#[]⟩, .string ⟨#[]⟩, .int .i64 q] rfl).six | go_keep)
    (first
      | (go_at_call 26; refine (who_any wh _ hwh).mono ?_; rintro r w1 ⟨rfl, hb1⟩; have D1 := Lib.hid (Dd.out.later hb1); clear hb1)
      | (go_at_call 18; refine (swOpen w0 _ b N nu o _ D1.out.s hN (whoN wh) (IntKind.i64.wrap ((us : Int).tmod 3)) ep (who_size _) o' q d (by rw [← wrap_mod3]; exact Hst.out)).mono ?_; rintro r w2 ⟨rfl, s2, hk2⟩; have D2 := Lib.hid (D1.out.step s2 hk2); clear s2 hk2; have q3 : w2.cell? ⟨w.heap.size + 1 + 1, 3, none⟩ = some (.int .i64 0) := cell_of_heap D2.out.res 3; have f3 : w2.frozen? ⟨w.heap.size + 1 + 1, 3, none⟩ = false := frozen_of_heap D2.out.res 3)
      | fail)
  have D3 := Lib.hid (D2.out.set HGl.out 3 (.int .i64 q) #[.string ⟨#[]⟩, .string ⟨#[]⟩, .string ⟨#[]⟩, .int .i64 q] rfl)
  generalize w2.setCell ⟨w.heap.size + 1 + 1, 3, none⟩ (.int .i64 q) = W3 at *
  clear q3 f3 c1 c2 c3 c4 c5 c6
  have s0 : W3.cell? ⟨w.heap.size + 1 + 1, 0, none⟩ = some (.string ⟨#[]⟩) := cell_of_heap D3.out.res 0
  have s1 : W3.cell? ⟨w.heap.size + 1 + 1, 1, none⟩ = some (.string ⟨#[]⟩) := cell_of_heap D3.out.res 1
  have s2 : W3.cell? ⟨w.heap.size + 1 + 1, 2, none⟩ = some (.string ⟨#[]⟩) := cell_of_heap D3.out.res 2
  have s3 : W3.cell? ⟨w.heap.size + 1 + 1, 3, none⟩ = some (.int .i64 q) := cell_of_heap D3.out.res 3
  have t0 : W3.cell? ⟨w.heap.size + 1, 0, none⟩ = some (.string ⟨#[]⟩) := cell_of_heap D3.out.out 0
  have g0 : W3.frozen? ⟨w.heap.size + 1, 0, none⟩ = false := frozen_of_heap D3.out.out 0
  have t1 : W3.cell? ⟨w.heap.size + 1, 1, none⟩ = some (.string ⟨#[]⟩) := cell_of_heap D3.out.out 1
  have g1 : W3.frozen? ⟨w.heap.size + 1, 1, none⟩ = false := frozen_of_heap D3.out.out 1
  have t2 : W3.cell? ⟨w.heap.size + 1, 2, none⟩ = some (.string ⟨#[]⟩) := cell_of_heap D3.out.out 2
  have g2 : W3.frozen? ⟨w.heap.size + 1, 2, none⟩ = false := frozen_of_heap D3.out.out 2
  have t3 : W3.cell? ⟨w.heap.size + 1, 3, none⟩ = some (.int .i64 0) := cell_of_heap D3.out.out 3
  have g3 : W3.frozen? ⟨w.heap.size + 1, 3, none⟩ = false := frozen_of_heap D3.out.out 3
  go_wp2
  refine bodyPost_ret (v := .agg #[.string ⟨#[]⟩, .string ⟨#[]⟩, .string ⟨#[]⟩, .int .i64 q]) (by simp [results, Tryz.results12, go_sem, t0, t1, t2, t3]) rfl ?_
  exact D3.out.post HGl.out (grown_set4 _ _ _ _ _ _) _

set_option maxRecDepth 100000 in
set_option maxHeartbeats 1600000 in
theorem pw_close {w0 w : World} {b : Nat} {N : NV} {o : Option PortT} {G : Nat → Prop} (kd wh us : Nat) (nu ep : Int) (sr by_ : ByteArray) (s : SW w0 w b N nu o G) (hN : N.V.calls.length < 1000000) (hwh : wh ≤ 255) (o' : Option PortT) (q d : Nat) (hk : kd % 5 = 1) (hst : closeW (whoN wh) nu ep o = (o', q, d)) :
    Calls Tryz.prog 12 #[.agg #[.int .u8 kd, .int .u8 wh, .int .u8 us, .int .i64 nu, .int .i64 ep, .string sr, .string by_], .pointer (some ⟨b, 0, none⟩)] w (SWP w0 b (N.step nu d o') nu o' G w (.agg #[.string ⟨#[]⟩, .string ⟨#[]⟩, .string ⟨#[]⟩, .int .i64 q])) := by
  have HGl : Hid (∀ k, G k → k < w.heap.size) := s.glt
  have D0 := Lib.hid (CP.start s #[.int .u8 kd, .int .u8 wh, .int .u8 us, .int .i64 nu, .int .i64 ep, .string sr, .string by_])
  have Hst := Lib.hid hst
  have hk' : (kd : Int) % 5 = 1 := by omega
  clear hk s hst
  go_enter Tryz.func12, Tryz.ntmps12
  go_wp2_with fail
  generalize ((w.alloc (.cells #[.int .u8 kd, .int .u8 wh, .int .u8 us, .int .i64 nu, .int .i64 ep, .string sr, .string by_] 35)).alloc (.cells #[.string ⟨#[]⟩, .string ⟨#[]⟩, .string ⟨#[]⟩, .int .i64 0] 42)).alloc (.cells #[.string ⟨#[]⟩, .string ⟨#[]⟩, .string ⟨#[]⟩, .int .i64 0] 42) = W at *
  obtain ⟨c1, c2, c3, c4, c5, c6⟩ := D0.out.six
  have Dd := Lib.hid D0.out.drew
  clear D0
  go_region_held3 (fun w' => w'.cell? ⟨w.heap.size, 1, none⟩ = some (.int .u8 wh) ∧ w'.cell? ⟨w.heap.size, 2, none⟩ = some (.int .u8 us) ∧ w'.cell? ⟨w.heap.size, 3, none⟩ = some (.int .i64 nu) ∧ w'.cell? ⟨w.heap.size, 4, none⟩ = some (.int .i64 ep) ∧ w'.cell? ⟨w.heap.size, 5, none⟩ = some (.string sr) ∧ w'.cell? ⟨w.heap.size, 6, none⟩ = some (.string by_)) (first | with_reducible exact ⟨c1, c2, c3, c4, c5, c6⟩ | with_reducible exact D1.out.six | with_reducible exact D2.out.six | with_reducible exact (D2.out.set HGl.out 3 (.int .i64 q) #[.string ⟨#[]⟩, .string ⟨#[]⟩, .string ⟨#[]⟩, .int .i64 q] rfl).six | go_keep)
    (first
      | (go_at_call 26; refine (who_any wh _ hwh).mono ?_; rintro r w1 ⟨rfl, hb1⟩; have D1 := Lib.hid (Dd.out.later hb1); clear hb1)
      | (go_at_call 27; refine (swClose w0 _ b N nu o _ D1.out.s hN (whoN wh) ep (who_size _) o' q d Hst.out).mono ?_; rintro r w2 ⟨rfl, s2, hk2⟩; have D2 := Lib.hid (D1.out.step s2 hk2); clear s2 hk2; have q3 : w2.cell? ⟨w.heap.size + 1 + 1, 3, none⟩ = some (.int .i64 0) := cell_of_heap D2.out.res 3; have f3 : w2.frozen? ⟨w.heap.size + 1 + 1, 3, none⟩ = false := frozen_of_heap D2.out.res 3)
      | fail)
  have D3 := Lib.hid (D2.out.set HGl.out 3 (.int .i64 q) #[.string ⟨#[]⟩, .string ⟨#[]⟩, .string ⟨#[]⟩, .int .i64 q] rfl)
  generalize w2.setCell ⟨w.heap.size + 1 + 1, 3, none⟩ (.int .i64 q) = W3 at *
  clear q3 f3 c1 c2 c3 c4 c5 c6
  have s0 : W3.cell? ⟨w.heap.size + 1 + 1, 0, none⟩ = some (.string ⟨#[]⟩) := cell_of_heap D3.out.res 0
  have s1 : W3.cell? ⟨w.heap.size + 1 + 1, 1, none⟩ = some (.string ⟨#[]⟩) := cell_of_heap D3.out.res 1
  have s2 : W3.cell? ⟨w.heap.size + 1 + 1, 2, none⟩ = some (.string ⟨#[]⟩) := cell_of_heap D3.out.res 2
  have s3 : W3.cell? ⟨w.heap.size + 1 + 1, 3, none⟩ = some (.int .i64 q) := cell_of_heap D3.out.res 3
  have t0 : W3.cell? ⟨w.heap.size + 1, 0, none⟩ = some (.string ⟨#[]⟩) := cell_of_heap D3.out.out 0
  have g0 : W3.frozen? ⟨w.heap.size + 1, 0, none⟩ = false := frozen_of_heap D3.out.out 0
  have t1 : W3.cell? ⟨w.heap.size + 1, 1, none⟩ = some (.string ⟨#[]⟩) := cell_of_heap D3.out.out 1
  have g1 : W3.frozen? ⟨w.heap.size + 1, 1, none⟩ = false := frozen_of_heap D3.out.out 1
  have t2 : W3.cell? ⟨w.heap.size + 1, 2, none⟩ = some (.string ⟨#[]⟩) := cell_of_heap D3.out.out 2
  have g2 : W3.frozen? ⟨w.heap.size + 1, 2, none⟩ = false := frozen_of_heap D3.out.out 2
  have t3 : W3.cell? ⟨w.heap.size + 1, 3, none⟩ = some (.int .i64 0) := cell_of_heap D3.out.out 3
  have g3 : W3.frozen? ⟨w.heap.size + 1, 3, none⟩ = false := frozen_of_heap D3.out.out 3
  go_wp2
  refine bodyPost_ret (v := .agg #[.string ⟨#[]⟩, .string ⟨#[]⟩, .string ⟨#[]⟩, .int .i64 q]) (by simp [results, Tryz.results12, go_sem, t0, t1, t2, t3]) rfl ?_
  exact D3.out.post HGl.out (grown_set4 _ _ _ _ _ _) _

set_option maxRecDepth 100000 in
set_option maxHeartbeats 1600000 in
theorem pw_arrive {w0 w : World} {b : Nat} {N : NV} {o : Option PortT} {G : Nat → Prop} (kd wh us : Nat) (nu ep : Int) (sr by_ : ByteArray) (s : SW w0 w b N nu o G) (hN : N.V.calls.length < 1000000) (hsr : sr.size ≤ 9223372036854775807) (hby : by_.size ≤ 9223372036854775807) (hcs : (cut sr 60).size ≤ 9223372036854775807) (hcb : (cut by_ 600).size ≤ 9223372036854775807) (o' : Option PortT) (q d : Nat) (hk : kd % 5 = 2) (hst : arriveW ⟨cut sr 60, cut by_ 600⟩ nu ep o = (o', q, d)) :
    Calls Tryz.prog 12 #[.agg #[.int .u8 kd, .int .u8 wh, .int .u8 us, .int .i64 nu, .int .i64 ep, .string sr, .string by_], .pointer (some ⟨b, 0, none⟩)] w (SWP w0 b (N.step nu d o') nu o' G w (.agg #[.string ⟨#[]⟩, .string ⟨#[]⟩, .string ⟨#[]⟩, .int .i64 q])) := by
  have HGl : Hid (∀ k, G k → k < w.heap.size) := s.glt
  have D0 := Lib.hid (CP.start s #[.int .u8 kd, .int .u8 wh, .int .u8 us, .int .i64 nu, .int .i64 ep, .string sr, .string by_])
  have Hst := Lib.hid hst
  have hk' : (kd : Int) % 5 = 2 := by omega
  clear hk s hst
  go_enter Tryz.func12, Tryz.ntmps12
  go_wp2_with fail
  generalize ((w.alloc (.cells #[.int .u8 kd, .int .u8 wh, .int .u8 us, .int .i64 nu, .int .i64 ep, .string sr, .string by_] 35)).alloc (.cells #[.string ⟨#[]⟩, .string ⟨#[]⟩, .string ⟨#[]⟩, .int .i64 0] 42)).alloc (.cells #[.string ⟨#[]⟩, .string ⟨#[]⟩, .string ⟨#[]⟩, .int .i64 0] 42) = W at *
  obtain ⟨c1, c2, c3, c4, c5, c6⟩ := D0.out.six
  have Dd := Lib.hid D0.out.drew
  clear D0
  go_region_held3 (fun w' => w'.cell? ⟨w.heap.size, 1, none⟩ = some (.int .u8 wh) ∧ w'.cell? ⟨w.heap.size, 2, none⟩ = some (.int .u8 us) ∧ w'.cell? ⟨w.heap.size, 3, none⟩ = some (.int .i64 nu) ∧ w'.cell? ⟨w.heap.size, 4, none⟩ = some (.int .i64 ep) ∧ w'.cell? ⟨w.heap.size, 5, none⟩ = some (.string sr) ∧ w'.cell? ⟨w.heap.size, 6, none⟩ = some (.string by_)) (first | with_reducible exact ⟨c1, c2, c3, c4, c5, c6⟩ | with_reducible exact D1.out.six | with_reducible exact D2.out.six | with_reducible exact (D2.out.set HGl.out 3 (.int .i64 q) #[.string ⟨#[]⟩, .string ⟨#[]⟩, .string ⟨#[]⟩, .int .i64 q] rfl).six | go_keep)
    (first
      | (go_at_call 28; refine (small_any sr by_ _ hsr hby).mono ?_; rintro r w1 ⟨rfl, hb1⟩; have D1 := Lib.hid (Dd.out.later hb1); clear hb1)
      | (go_at_call 19; refine (swArrive w0 _ b N nu o _ D1.out.s hN (cut sr 60) (cut by_ 600) ep hcs hcb o' q d Hst.out).mono ?_; rintro r w2 ⟨rfl, s2, hk2⟩; have D2 := Lib.hid (D1.out.step s2 hk2); clear s2 hk2; have q3 : w2.cell? ⟨w.heap.size + 1 + 1, 3, none⟩ = some (.int .i64 0) := cell_of_heap D2.out.res 3; have f3 : w2.frozen? ⟨w.heap.size + 1 + 1, 3, none⟩ = false := frozen_of_heap D2.out.res 3)
      | fail)
  have D3 := Lib.hid (D2.out.set HGl.out 3 (.int .i64 q) #[.string ⟨#[]⟩, .string ⟨#[]⟩, .string ⟨#[]⟩, .int .i64 q] rfl)
  generalize w2.setCell ⟨w.heap.size + 1 + 1, 3, none⟩ (.int .i64 q) = W3 at *
  clear q3 f3 c1 c2 c3 c4 c5 c6
  have s0 : W3.cell? ⟨w.heap.size + 1 + 1, 0, none⟩ = some (.string ⟨#[]⟩) := cell_of_heap D3.out.res 0
  have s1 : W3.cell? ⟨w.heap.size + 1 + 1, 1, none⟩ = some (.string ⟨#[]⟩) := cell_of_heap D3.out.res 1
  have s2 : W3.cell? ⟨w.heap.size + 1 + 1, 2, none⟩ = some (.string ⟨#[]⟩) := cell_of_heap D3.out.res 2
  have s3 : W3.cell? ⟨w.heap.size + 1 + 1, 3, none⟩ = some (.int .i64 q) := cell_of_heap D3.out.res 3
  have t0 : W3.cell? ⟨w.heap.size + 1, 0, none⟩ = some (.string ⟨#[]⟩) := cell_of_heap D3.out.out 0
  have g0 : W3.frozen? ⟨w.heap.size + 1, 0, none⟩ = false := frozen_of_heap D3.out.out 0
  have t1 : W3.cell? ⟨w.heap.size + 1, 1, none⟩ = some (.string ⟨#[]⟩) := cell_of_heap D3.out.out 1
  have g1 : W3.frozen? ⟨w.heap.size + 1, 1, none⟩ = false := frozen_of_heap D3.out.out 1
  have t2 : W3.cell? ⟨w.heap.size + 1, 2, none⟩ = some (.string ⟨#[]⟩) := cell_of_heap D3.out.out 2
  have g2 : W3.frozen? ⟨w.heap.size + 1, 2, none⟩ = false := frozen_of_heap D3.out.out 2
  have t3 : W3.cell? ⟨w.heap.size + 1, 3, none⟩ = some (.int .i64 0) := cell_of_heap D3.out.out 3
  have g3 : W3.frozen? ⟨w.heap.size + 1, 3, none⟩ = false := frozen_of_heap D3.out.out 3
  go_wp2
  refine bodyPost_ret (v := .agg #[.string ⟨#[]⟩, .string ⟨#[]⟩, .string ⟨#[]⟩, .int .i64 q]) (by simp [results, Tryz.results12, go_sem, t0, t1, t2, t3]) rfl ?_
  exact D3.out.post HGl.out (grown_set4 _ _ _ _ _ _) _

set_option maxRecDepth 100000 in
set_option maxHeartbeats 1600000 in
theorem pw_receive {w0 w : World} {b : Nat} {N : NV} {o : Option PortT} {G : Nat → Prop} (kd wh us : Nat) (nu ep : Int) (sr by_ : ByteArray) (s : SW w0 w b N nu o G) (hN : N.V.calls.length < 1000000) (hwh : wh ≤ 255) (o' : Option PortT) (x : PackT) (q d : Nat) (hk : kd % 5 = 3) (hst : receiveW (whoN wh) nu ep o = (o', x, q, d)) :
    Calls Tryz.prog 12 #[.agg #[.int .u8 kd, .int .u8 wh, .int .u8 us, .int .i64 nu, .int .i64 ep, .string sr, .string by_], .pointer (some ⟨b, 0, none⟩)] w (SWP w0 b (N.step nu d o') nu o' G w (.agg #[.string x.src, .string x.bytes, .string ⟨#[]⟩, .int .i64 q])) := by
  have HGl : Hid (∀ k, G k → k < w.heap.size) := s.glt
  have D0 := Lib.hid (CP.start s #[.int .u8 kd, .int .u8 wh, .int .u8 us, .int .i64 nu, .int .i64 ep, .string sr, .string by_])
  have Hst := Lib.hid hst
  have hk' : (kd : Int) % 5 = 3 := by omega
  clear hk s hst
  go_enter Tryz.func12, Tryz.ntmps12
  go_wp2_with fail
  generalize ((w.alloc (.cells #[.int .u8 kd, .int .u8 wh, .int .u8 us, .int .i64 nu, .int .i64 ep, .string sr, .string by_] 35)).alloc (.cells #[.string ⟨#[]⟩, .string ⟨#[]⟩, .string ⟨#[]⟩, .int .i64 0] 42)).alloc (.cells #[.string ⟨#[]⟩, .string ⟨#[]⟩, .string ⟨#[]⟩, .int .i64 0] 42) = W at *
  obtain ⟨c1, c2, c3, c4, c5, c6⟩ := D0.out.six
  have Dd := Lib.hid D0.out.drew
  clear D0
  go_region_held3 (fun w' => w'.cell? ⟨w.heap.size, 1, none⟩ = some (.int .u8 wh) ∧ w'.cell? ⟨w.heap.size, 2, none⟩ = some (.int .u8 us) ∧ w'.cell? ⟨w.heap.size, 3, none⟩ = some (.int .i64 nu) ∧ w'.cell? ⟨w.heap.size, 4, none⟩ = some (.int .i64 ep) ∧ w'.cell? ⟨w.heap.size, 5, none⟩ = some (.string sr) ∧ w'.cell? ⟨w.heap.size, 6, none⟩ = some (.string by_)) (first | with_reducible exact ⟨c1, c2, c3, c4, c5, c6⟩ | with_reducible exact D1.out.six | with_reducible exact D2.out.six | with_reducible exact (D2.out.set HGl.out 0 (.string x.src) #[.string x.src, .string ⟨#[]⟩, .string ⟨#[]⟩, .int .i64 0] rfl).six | with_reducible exact ((D2.out.set HGl.out 0 (.string x.src) #[.string x.src, .string ⟨#[]⟩, .string ⟨#[]⟩, .int .i64 0] rfl).set HGl.out 1 (.string x.bytes) #[.string x.src, .string x.bytes, .string ⟨#[]⟩, .int .i64 0] rfl).six | with_reducible exact (((D2.out.set HGl.out 0 (.string x.src) #[.string x.src, .string ⟨#[]⟩, .string ⟨#[]⟩, .int .i64 0] rfl).set HGl.out 1 (.string x.bytes) #[.string x.src, .string x.bytes, .string ⟨#[]⟩, .int .i64 0] rfl).set HGl.out 3 (.int .i64 q) #[.string x.src, .string x.bytes, .string ⟨#[]⟩, .int .i64 q] rfl).six | go_keep)
    (first
      | (go_at_call 26; refine (who_any wh _ hwh).mono ?_; rintro r w1 ⟨rfl, hb1⟩; have D1 := Lib.hid (Dd.out.later hb1); clear hb1)
      | (go_at_call 20; refine (swReceive w0 _ b N nu o _ D1.out.s hN (whoN wh) ep (who_size _) o' x q d Hst.out).mono ?_; rintro r w2 ⟨rfl, s2, hk2⟩; have D2 := Lib.hid (D1.out.step s2 hk2); clear s2 hk2; have q3 : w2.cell? ⟨w.heap.size + 1 + 1, 3, none⟩ = some (.int .i64 0) := cell_of_heap D2.out.res 3; have f3 : w2.frozen? ⟨w.heap.size + 1 + 1, 3, none⟩ = false := frozen_of_heap D2.out.res 3; have q0 : w2.cell? ⟨w.heap.size + 1 + 1, 0, none⟩ = some (.string ⟨#[]⟩) := cell_of_heap D2.out.res 0; have q1 : w2.cell? ⟨w.heap.size + 1 + 1, 1, none⟩ = some (.string ⟨#[]⟩) := cell_of_heap D2.out.res 1; have f0 : w2.frozen? ⟨w.heap.size + 1 + 1, 0, none⟩ = false := frozen_of_heap D2.out.res 0; have f1 : w2.frozen? ⟨w.heap.size + 1 + 1, 1, none⟩ = false := frozen_of_heap D2.out.res 1)
      | fail)
  have D3 := Lib.hid (((D2.out.set HGl.out 0 (.string x.src) #[.string x.src, .string ⟨#[]⟩, .string ⟨#[]⟩, .int .i64 0] rfl).set HGl.out 1 (.string x.bytes) #[.string x.src, .string x.bytes, .string ⟨#[]⟩, .int .i64 0] rfl).set HGl.out 3 (.int .i64 q) #[.string x.src, .string x.bytes, .string ⟨#[]⟩, .int .i64 q] rfl)
  generalize ((w2.setCell ⟨w.heap.size + 1 + 1, 0, none⟩ (.string x.src)).setCell ⟨w.heap.size + 1 + 1, 1, none⟩ (.string x.bytes)).setCell ⟨w.heap.size + 1 + 1, 3, none⟩ (.int .i64 q) = W3 at *
  clear q3 f3 q0 q1 f0 f1 c1 c2 c3 c4 c5 c6
  have s0 : W3.cell? ⟨w.heap.size + 1 + 1, 0, none⟩ = some (.string x.src) := cell_of_heap D3.out.res 0
  have s1 : W3.cell? ⟨w.heap.size + 1 + 1, 1, none⟩ = some (.string x.bytes) := cell_of_heap D3.out.res 1
  have s2 : W3.cell? ⟨w.heap.size + 1 + 1, 2, none⟩ = some (.string ⟨#[]⟩) := cell_of_heap D3.out.res 2
  have s3 : W3.cell? ⟨w.heap.size + 1 + 1, 3, none⟩ = some (.int .i64 q) := cell_of_heap D3.out.res 3
  have t0 : W3.cell? ⟨w.heap.size + 1, 0, none⟩ = some (.string ⟨#[]⟩) := cell_of_heap D3.out.out 0
  have g0 : W3.frozen? ⟨w.heap.size + 1, 0, none⟩ = false := frozen_of_heap D3.out.out 0
  have t1 : W3.cell? ⟨w.heap.size + 1, 1, none⟩ = some (.string ⟨#[]⟩) := cell_of_heap D3.out.out 1
  have g1 : W3.frozen? ⟨w.heap.size + 1, 1, none⟩ = false := frozen_of_heap D3.out.out 1
  have t2 : W3.cell? ⟨w.heap.size + 1, 2, none⟩ = some (.string ⟨#[]⟩) := cell_of_heap D3.out.out 2
  have g2 : W3.frozen? ⟨w.heap.size + 1, 2, none⟩ = false := frozen_of_heap D3.out.out 2
  have t3 : W3.cell? ⟨w.heap.size + 1, 3, none⟩ = some (.int .i64 0) := cell_of_heap D3.out.out 3
  have g3 : W3.frozen? ⟨w.heap.size + 1, 3, none⟩ = false := frozen_of_heap D3.out.out 3
  go_wp2
  refine bodyPost_ret (v := .agg #[.string x.src, .string x.bytes, .string ⟨#[]⟩, .int .i64 q]) (by simp [results, Tryz.results12, go_sem, t0, t1, t2, t3]) rfl ?_
  exact D3.out.post HGl.out (grown_set4 _ _ _ _ _ _) _

end Go.Proofs.YtijfdgoeppehlaaGreatDoor

namespace Go.Proofs.YtijfdgoeppehlaaGreatDoor
open Go.RowKit
attribute [local go_sem ↓] Go.wp_at_zero Go.wp_at_succ
set_option maxRecDepth 100000 in
set_option maxHeartbeats 1600000 in
theorem pw_get_bad {w0 w : World} {b : Nat} {N : NV} {o : Option PortT} {G : Nat → Prop} (kd wh us : Nat) (nu ep : Int) (sr by_ : ByteArray) (s : SW w0 w b N nu o G) (hk : kd % 5 = 4) (q : Nat) (hq : qArgs ⟨#[]⟩ nu ep = q) (h0 : q ≠ 0) :
    Calls Tryz.prog 12 #[.agg #[.int .u8 kd, .int .u8 wh, .int .u8 us, .int .i64 nu, .int .i64 ep, .string sr, .string by_], .pointer (some ⟨b, 0, none⟩)] w (SWP w0 b N nu o G w (.agg #[.string ⟨#[]⟩, .string ⟨#[]⟩, .string ⟨#[]⟩, .int .i64 q])) := by
  have HGl : Hid (∀ k, G k → k < w.heap.size) := s.glt
  have D0 := Lib.hid (CP.start s #[.int .u8 kd, .int .u8 wh, .int .u8 us, .int .i64 nu, .int .i64 ep, .string sr, .string by_])
  have hk' : (kd : Int) % 5 = 4 := by omega
  clear hk s
  have Hq := Lib.hid hq
  have H0 := Lib.hid h0
  have hq1 : ((q : Int) != 0) = true := bne_iff_ne.2 (by omega)
  have hq2 : ((q : Int) == 0) = false := beq_eq_false_iff_ne.2 (by omega)
  clear hq h0
  go_enter Tryz.func12, Tryz.ntmps12
  go_wp2_with fail
  generalize ((w.alloc (.cells #[.int .u8 kd, .int .u8 wh, .int .u8 us, .int .i64 nu, .int .i64 ep, .string sr, .string by_] 35)).alloc (.cells #[.string ⟨#[]⟩, .string ⟨#[]⟩, .string ⟨#[]⟩, .int .i64 0] 42)).alloc (.cells #[.string ⟨#[]⟩, .string ⟨#[]⟩, .string ⟨#[]⟩, .int .i64 0] 42) = W at *
  obtain ⟨c1, c2, c3, c4, c5, c6⟩ := D0.out.six
  go_wp2_with fail
  refine (getBad_any b nu ep q Hq.out H0.out _).mono ?_
  rintro r w1 ⟨rfl, hb1⟩
  have D1 := Lib.hid (D0.out.later hb1)
  clear hb1 c1 c2 c3 c4 c5 c6 D0
  have q3 : w1.cell? ⟨w.heap.size + 1 + 1, 3, none⟩ = some (.int .i64 0) := cell_of_heap D1.out.res 3
  have f3 : w1.frozen? ⟨w.heap.size + 1 + 1, 3, none⟩ = false := frozen_of_heap D1.out.res 3
  have hl := lt_of_heap D1.out.res
  have hne := World.new_ne w1 ⟨w.heap.size + 1 + 1, 3, none⟩ q3
  have D2 : Hid (∀ x, CP w0 w ((w1.setCell ⟨w.heap.size + 1 + 1, 3, none⟩ (.int .i64 q)).alloc x) b N nu o G #[.int .u8 kd, .int .u8 wh, .int .u8 us, .int .i64 nu, .int .i64 ep, .string sr, .string by_] #[.string ⟨#[]⟩, .string ⟨#[]⟩, .string ⟨#[]⟩, .int .i64 q]) := fun x => (D1.out.set HGl.out 3 _ _ rfl).later ((Below.refl _ _).alloc (Nat.le_refl _) _)
  go_upto_region 15 with fail
  have D3 := Lib.hid (D2.out (.cells #[.string ⟨#[]⟩, .int .i64 0, .int .i64 0, .slice none 0 0] 80))
  generalize (w1.setCell ⟨w.heap.size + 1 + 1, 3, none⟩ (.int .i64 q)).alloc (.cells #[.string ⟨#[]⟩, .int .i64 0, .int .i64 0, .slice none 0 0] 80) = W3 at *
  clear q3 f3 hl hne D2
  have s0 : W3.cell? ⟨w.heap.size + 1 + 1, 0, none⟩ = some (.string ⟨#[]⟩) := cell_of_heap D3.out.res 0
  have s1 : W3.cell? ⟨w.heap.size + 1 + 1, 1, none⟩ = some (.string ⟨#[]⟩) := cell_of_heap D3.out.res 1
  have s2 : W3.cell? ⟨w.heap.size + 1 + 1, 2, none⟩ = some (.string ⟨#[]⟩) := cell_of_heap D3.out.res 2
  have s3 : W3.cell? ⟨w.heap.size + 1 + 1, 3, none⟩ = some (.int .i64 q) := cell_of_heap D3.out.res 3
  have t0 : W3.cell? ⟨w.heap.size + 1, 0, none⟩ = some (.string ⟨#[]⟩) := cell_of_heap D3.out.out 0
  have g0 : W3.frozen? ⟨w.heap.size + 1, 0, none⟩ = false := frozen_of_heap D3.out.out 0
  have t1 : W3.cell? ⟨w.heap.size + 1, 1, none⟩ = some (.string ⟨#[]⟩) := cell_of_heap D3.out.out 1
  have g1 : W3.frozen? ⟨w.heap.size + 1, 1, none⟩ = false := frozen_of_heap D3.out.out 1
  have t2 : W3.cell? ⟨w.heap.size + 1, 2, none⟩ = some (.string ⟨#[]⟩) := cell_of_heap D3.out.out 2
  have g2 : W3.frozen? ⟨w.heap.size + 1, 2, none⟩ = false := frozen_of_heap D3.out.out 2
  have t3 : W3.cell? ⟨w.heap.size + 1, 3, none⟩ = some (.int .i64 0) := cell_of_heap D3.out.out 3
  have g3 : W3.frozen? ⟨w.heap.size + 1, 3, none⟩ = false := frozen_of_heap D3.out.out 3
  go_wp2
  refine bodyPost_ret (v := .agg #[.string ⟨#[]⟩, .string ⟨#[]⟩, .string ⟨#[]⟩, .int .i64 q]) (by simp [results, Tryz.results12, go_sem, t0, t1, t2, t3]) rfl ?_
  exact D3.out.post HGl.out (grown_set4 _ _ _ _ _ _) _

set_option maxRecDepth 100000 in
set_option maxHeartbeats 1600000 in
theorem pw_get_ok {w0 w : World} {b : Nat} {N : NV} {o : Option PortT} {G : Nat → Prop} (kd wh us : Nat) (nu ep : Int) (sr by_ : ByteArray) (s : SW w0 w b N nu o G) (hk : kd % 5 = 4) (hm : 1 ≤ nu ∧ nu ≤ 9999) (he : numB ep = true) (p : PortT) (q : Nat) (hst : qHas ep o = (p, q)) (te : ByteArray) (hte : te = if q = 0 then strOf (encQB p) else ⟨#[]⟩) :
    Calls Tryz.prog 12 #[.agg #[.int .u8 kd, .int .u8 wh, .int .u8 us, .int .i64 nu, .int .i64 ep, .string sr, .string by_], .pointer (some ⟨b, 0, none⟩)] w (SWP w0 b (N.seen nu) nu o G w (.agg #[.string ⟨#[]⟩, .string ⟨#[]⟩, .string te, .int .i64 q])) := by
  have HGl : Hid (∀ k, G k → k < w.heap.size) := s.glt
  have D0 := Lib.hid (CP.start s #[.int .u8 kd, .int .u8 wh, .int .u8 us, .int .i64 nu, .int .i64 ep, .string sr, .string by_])
  have hk' : (kd : Int) % 5 = 4 := by omega
  clear hk s
  have Hst := Lib.hid hst
  have Hte := Lib.hid hte
  clear hst hte
  go_enter Tryz.func12, Tryz.ntmps12
  go_wp2_with fail
  generalize ((w.alloc (.cells #[.int .u8 kd, .int .u8 wh, .int .u8 us, .int .i64 nu, .int .i64 ep, .string sr, .string by_] 35)).alloc (.cells #[.string ⟨#[]⟩, .string ⟨#[]⟩, .string ⟨#[]⟩, .int .i64 0] 42)).alloc (.cells #[.string ⟨#[]⟩, .string ⟨#[]⟩, .string ⟨#[]⟩, .int .i64 0] 42) = W at *
  obtain ⟨c1, c2, c3, c4, c5, c6⟩ := D0.out.six
  go_wp2_with fail
  refine (swGet w0 W b N nu o _ D0.out.s ep hm he p q Hst.out).mono ?_
  rintro r w1 ⟨a, n, c, rfl, hrow, hl, s1, hk1⟩
  have D1 := Lib.hid (D0.out.step (s1.fresh (Below.refl _ _) (fun k hk => .inl (.inl hk))) hk1)
  have Hrow := Lib.hid hrow
  clear hl s1 hk1 hrow c1 c2 c3 c4 c5 c6 D0
  have q3 : w1.cell? ⟨w.heap.size + 1 + 1, 3, none⟩ = some (.int .i64 0) := cell_of_heap D1.out.res 3
  have f3 : w1.frozen? ⟨w.heap.size + 1 + 1, 3, none⟩ = false := frozen_of_heap D1.out.res 3
  have hl := lt_of_heap D1.out.res
  have hne := World.new_ne w1 ⟨w.heap.size + 1 + 1, 3, none⟩ q3
  obtain ⟨ow, po, lo, ls⟩ := p
  dsimp only at *
  have D2 : Hid (∀ x, CP w0 w ((w1.setCell ⟨w.heap.size + 1 + 1, 3, none⟩ (.int .i64 q)).alloc x) b (N.seen nu) nu o G #[.int .u8 kd, .int .u8 wh, .int .u8 us, .int .i64 nu, .int .i64 ep, .string sr, .string by_] #[.string ⟨#[]⟩, .string ⟨#[]⟩, .string ⟨#[]⟩, .int .i64 q]) := fun x => (D1.out.set HGl.out 3 _ _ rfl).later ((Below.refl _ _).alloc (Nat.le_refl _) _)
  have HX2 : Hid (∀ x, ((w1.setCell ⟨w.heap.size + 1 + 1, 3, none⟩ (.int .i64 q)).alloc x).heap[w1.heap.size]? = some x) := fun x => by
    have := World.alloc_heap_new (w1.setCell ⟨w.heap.size + 1 + 1, 3, none⟩ (.int .i64 q)) x
    rwa [size_setCell] at this
  have HP2 : Hid (∀ x, PSl ((w1.setCell ⟨w.heap.size + 1 + 1, 3, none⟩ (.int .i64 q)).alloc x) a n ls) := fun x =>
    ((Hrow.out.sl.grown (grown_setCell _ _ _ _) (fun g off ha e => by
      have hg := Option.some.inj e
      rcases Hrow.out.2 with ⟨hv, _⟩ | ⟨g', cap', cur, hv, _, hh, _⟩
      · rw [ha] at hv; cases hv
      · rw [ha] at hv
        have : g = g' := by injection hv with h1; injection h1 with h2; injection h2
        subst this
        subst hg
        have := D1.out.res
        rw [hh] at this
        cases this)).later ((Below.refl _ _).alloc (Nat.le_refl _) _))
  by_cases hq : q = 0
  · subst hq
    obtain ⟨rfl, rfl⟩ := qHas_some Hst.out
    have hck := D1.out.s.check
    have Hck := Lib.hid hck
    have ht : te = strOf (encQB ⟨ow, po, lo, ls⟩) := Hte.out
    subst ht
    clear hck
    go_upto_region 6 with fail
    have D3 := Lib.hid (D2.out (.cells #[.string ow, .int .i64 po, .int .i64 lo, .slice a n c] 80))
    have hX3 := HX2.out (.cells #[.string ow, .int .i64 po, .int .i64 lo, .slice a n c] 80)
    have HP3 := Lib.hid (HP2.out (.cells #[.string ow, .int .i64 po, .int .i64 lo, .slice a n c] 80))
    generalize (w1.setCell ⟨w.heap.size + 1 + 1, 3, none⟩ (.int .i64 0)).alloc (.cells #[.string ow, .int .i64 po, .int .i64 lo, .slice a n c] 80) = W3 at *
    clear q3 f3 hl hne D2 HX2 HP2
    have x0 : W3.cell? ⟨w1.heap.size, 0, none⟩ = some (.string ow) := cell_of_heap hX3 0
    have x1 : W3.cell? ⟨w1.heap.size, 1, none⟩ = some (.int .i64 po) := cell_of_heap hX3 1
    have x2 : W3.cell? ⟨w1.heap.size, 2, none⟩ = some (.int .i64 lo) := cell_of_heap hX3 2
    have x3 : W3.cell? ⟨w1.heap.size, 3, none⟩ = some (.slice a n c) := cell_of_heap hX3 3
    clear hX3
    go_wp2_with fail
    refine (lEncode_any ow po lo a n c ls _ HP3.out Hck.out.2 Hck.out.1).mono ?_
    rintro r w4 ⟨rfl, hb4⟩
    have D4 := Lib.hid (D3.out.later hb4)
    clear hb4 x0 x1 x2 x3 D3 HP3
    have q2 : w4.cell? ⟨w.heap.size + 1 + 1, 2, none⟩ = some (.string ⟨#[]⟩) := cell_of_heap D4.out.res 2
    have f2 : w4.frozen? ⟨w.heap.size + 1 + 1, 2, none⟩ = false := frozen_of_heap D4.out.res 2
    go_upto_region 15 with fail
    generalize strOf (encQB ⟨ow, po, lo, ls⟩) = te at *
    have D5 := Lib.hid (D4.out.set HGl.out 2 (.string te) #[.string ⟨#[]⟩, .string ⟨#[]⟩, .string te, .int .i64 0] rfl)
    generalize w4.setCell ⟨w.heap.size + 1 + 1, 2, none⟩ (.string te) = W5 at *
    clear q2 f2 D4
    have s0 : W5.cell? ⟨w.heap.size + 1 + 1, 0, none⟩ = some (.string ⟨#[]⟩) := cell_of_heap D5.out.res 0
    have s1 : W5.cell? ⟨w.heap.size + 1 + 1, 1, none⟩ = some (.string ⟨#[]⟩) := cell_of_heap D5.out.res 1
    have s2 : W5.cell? ⟨w.heap.size + 1 + 1, 2, none⟩ = some (.string te) := cell_of_heap D5.out.res 2
    have s3 : W5.cell? ⟨w.heap.size + 1 + 1, 3, none⟩ = some (.int .i64 0) := cell_of_heap D5.out.res 3
    have t0 : W5.cell? ⟨w.heap.size + 1, 0, none⟩ = some (.string ⟨#[]⟩) := cell_of_heap D5.out.out 0
    have g0 : W5.frozen? ⟨w.heap.size + 1, 0, none⟩ = false := frozen_of_heap D5.out.out 0
    have t1 : W5.cell? ⟨w.heap.size + 1, 1, none⟩ = some (.string ⟨#[]⟩) := cell_of_heap D5.out.out 1
    have g1 : W5.frozen? ⟨w.heap.size + 1, 1, none⟩ = false := frozen_of_heap D5.out.out 1
    have t2 : W5.cell? ⟨w.heap.size + 1, 2, none⟩ = some (.string ⟨#[]⟩) := cell_of_heap D5.out.out 2
    have g2 : W5.frozen? ⟨w.heap.size + 1, 2, none⟩ = false := frozen_of_heap D5.out.out 2
    have t3 : W5.cell? ⟨w.heap.size + 1, 3, none⟩ = some (.int .i64 0) := cell_of_heap D5.out.out 3
    have g3 : W5.frozen? ⟨w.heap.size + 1, 3, none⟩ = false := frozen_of_heap D5.out.out 3
    go_wp2
    refine bodyPost_ret (v := .agg #[.string ⟨#[]⟩, .string ⟨#[]⟩, .string te, .int .i64 0]) (by simp [results, Tryz.results12, go_sem, t0, t1, t2, t3]) rfl ?_
    exact D5.out.post HGl.out (grown_set4 _ _ _ _ _ _) _
  · have hq1 : ((q : Int) != 0) = true := bne_iff_ne.2 (by omega)
    have hq2 : ((q : Int) == 0) = false := beq_eq_false_iff_ne.2 (by omega)
    have ht : te = ⟨#[]⟩ := by rw [Hte.out, if_neg hq]
    subst ht
    clear hq
    go_upto_region 15 with fail
    have D3 := Lib.hid (D2.out (.cells #[.string ow, .int .i64 po, .int .i64 lo, .slice a n c] 80))
    generalize (w1.setCell ⟨w.heap.size + 1 + 1, 3, none⟩ (.int .i64 q)).alloc (.cells #[.string ow, .int .i64 po, .int .i64 lo, .slice a n c] 80) = W3 at *
    clear q3 f3 hl hne D2
    have s0 : W3.cell? ⟨w.heap.size + 1 + 1, 0, none⟩ = some (.string ⟨#[]⟩) := cell_of_heap D3.out.res 0
    have s1 : W3.cell? ⟨w.heap.size + 1 + 1, 1, none⟩ = some (.string ⟨#[]⟩) := cell_of_heap D3.out.res 1
    have s2 : W3.cell? ⟨w.heap.size + 1 + 1, 2, none⟩ = some (.string ⟨#[]⟩) := cell_of_heap D3.out.res 2
    have s3 : W3.cell? ⟨w.heap.size + 1 + 1, 3, none⟩ = some (.int .i64 q) := cell_of_heap D3.out.res 3
    have t0 : W3.cell? ⟨w.heap.size + 1, 0, none⟩ = some (.string ⟨#[]⟩) := cell_of_heap D3.out.out 0
    have g0 : W3.frozen? ⟨w.heap.size + 1, 0, none⟩ = false := frozen_of_heap D3.out.out 0
    have t1 : W3.cell? ⟨w.heap.size + 1, 1, none⟩ = some (.string ⟨#[]⟩) := cell_of_heap D3.out.out 1
    have g1 : W3.frozen? ⟨w.heap.size + 1, 1, none⟩ = false := frozen_of_heap D3.out.out 1
    have t2 : W3.cell? ⟨w.heap.size + 1, 2, none⟩ = some (.string ⟨#[]⟩) := cell_of_heap D3.out.out 2
    have g2 : W3.frozen? ⟨w.heap.size + 1, 2, none⟩ = false := frozen_of_heap D3.out.out 2
    have t3 : W3.cell? ⟨w.heap.size + 1, 3, none⟩ = some (.int .i64 0) := cell_of_heap D3.out.out 3
    have g3 : W3.frozen? ⟨w.heap.size + 1, 3, none⟩ = false := frozen_of_heap D3.out.out 3
    go_wp2
    refine bodyPost_ret (v := .agg #[.string ⟨#[]⟩, .string ⟨#[]⟩, .string ⟨#[]⟩, .int .i64 q]) (by simp [results, Tryz.results12, go_sem, t0, t1, t2, t3]) rfl ?_
    exact D3.out.post HGl.out (grown_set4 _ _ _ _ _ _) _

theorem pw_any {w0 w : World} {b : Nat} {N : NV} {o : Option PortT} {G : Nat → Prop} {kd wh us : Nat} {nu ep : Int} {sr by_ : ByteArray} (s : SW w0 w b N nu o G) (hN : N.V.calls.length < 1000000) (hwh : wh ≤ 255) (hsr : sr.size ≤ 9223372036854775807) (hby : by_.size ≤ 9223372036854775807) :
    Calls Tryz.prog 12 #[.agg #[.int .u8 kd, .int .u8 wh, .int .u8 us, .int .i64 nu, .int .i64 ep, .string sr, .string by_], .pointer (some ⟨b, 0, none⟩)] w (SWP w0 b (N.step nu (pCallW kd wh us nu ep sr by_ o).2.2 (pCallW kd wh us nu ep sr by_ o).1) nu (pCallW kd wh us nu ep sr by_ o).1 G w (.agg (presCells (pCallW kd wh us nu ep sr by_ o).2.1))) := by
  unfold pCallW
  by_cases k0 : kd % 5 = 0
  · simp only [if_pos k0]
    exact pw_open kd wh us nu ep sr by_ s hN hwh _ _ _ k0 rfl
  by_cases k1 : kd % 5 = 1
  · simp only [if_neg k0, if_pos k1]
    exact pw_close kd wh us nu ep sr by_ s hN hwh _ _ _ k1 rfl
  by_cases k2 : kd % 5 = 2
  · simp only [if_neg k0, if_neg k1, if_pos k2]
    exact pw_arrive kd wh us nu ep sr by_ s hN hsr hby (by have := (cut_size sr 60).2; omega) (by have := (cut_size by_ 600).2; omega) _ _ _ k2 rfl
  by_cases k3 : kd % 5 = 3
  · simp only [if_neg k0, if_neg k1, if_neg k2, if_pos k3]
    exact pw_receive kd wh us nu ep sr by_ s hN hwh _ _ _ _ k3 rfl
  · simp only [if_neg k0, if_neg k1, if_neg k2, if_neg k3]
    unfold getW
    by_cases a : qArgs ⟨#[]⟩ nu ep ≠ 0
    · simp only [if_pos a]
      exact pw_get_bad kd wh us nu ep sr by_ s (by omega) _ rfl a
    · simp only [if_neg a]
      obtain ⟨_, hm, he⟩ := qArgs_ok (by simpa using a)
      exact pw_get_ok kd wh us nu ep sr by_ s (by omega) hm he _ _ rfl _ rfl
end Go.Proofs.YtijfdgoeppehlaaGreatDoor
