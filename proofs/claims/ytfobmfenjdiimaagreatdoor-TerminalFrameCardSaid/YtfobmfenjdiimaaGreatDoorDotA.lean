/- Law 36: short, do upon a view whose value is known. (printed by wip/gen_dot.py) Terminals without a view. (printed by wip/gen_tern.py) -/
import Derived.Test.YtfobmfenjdiimaaGreatDoorTqB
import Derived.Deep.RegionLaw
namespace Go.Proofs.YtfobmfenjdiimaaGreatDoor
open Go.RowKit
attribute [local go_sem ↓] Go.wp_at_zero Go.wp_at_succ

/-- An operation as the program holds it. -/
def opuV (o : OpU) : Value := .agg #[.int .u8 o.kd, .int .i64 o.num, .int .i64 o.ep, .string o.who, .string o.text]
set_option maxRecDepth 100000 in
set_option maxHeartbeats 4000000 in
theorem short36_any (kd : Nat) (num ep : Int) (who text : ByteArray) (w : World) (hw : who.size ≤ 9223372036854775807) (ht : text.size ≤ 9223372036854775807) :
    Calls Tryz.prog 28 #[.agg #[.int .u8 kd, .int .i64 num, .int .i64 ep, .string who, .string text]] w fun r w' => r = .returned (.agg #[.int .u8 kd, .int .i64 num, .int .i64 ep, .string (cutU who 100), .string (cutU text 3000)]) ∧ Below w.heap.size w w' := by
  have w1 : (¬ (100 : Int) < (who.size : Int) ∧ cutU who 100 = who) ∨ ((100 : Int) < (who.size : Int) ∧ cutU who 100 = who.extract 0 100) := by
    by_cases h : (100 : Int) < (who.size : Int)
    · exact .inr ⟨h, if_pos h⟩
    · exact .inl ⟨h, if_neg h⟩
  have w2 : (¬ (3000 : Int) < (text.size : Int) ∧ cutU text 3000 = text) ∨ ((3000 : Int) < (text.size : Int) ∧ cutU text 3000 = text.extract 0 3000) := by
    by_cases h : (3000 : Int) < (text.size : Int)
    · exact .inr ⟨h, if_pos h⟩
    · exact .inl ⟨h, if_neg h⟩
  rcases w1 with ⟨h1, e1⟩ | ⟨h1, e1⟩ <;> rcases w2 with ⟨h2, e2⟩ | ⟨h2, e2⟩
  all_goals
    have E1 := Lib.hid e1
    have E2 := Lib.hid e2
    clear e1 e2
    go_enter Tryz.func28, Tryz.ntmps28
    go_wp2
    refine bodyPost_ret (v := .agg #[.int .u8 kd, .int .i64 num, .int .i64 ep, .string (cutU who 100), .string (cutU text 3000)]) (by simp [results, Tryz.results28, go_sem, E1.out, E2.out]) rfl ⟨rfl, ?_⟩
    exact ((Below.refl _ _).alloc (Nat.le_refl _) _).alloc (by simp) _
theorem set5_at {w : World} {R : Nat} {p0 p1 p2 p3 p4 : Value} {T : TypeId} (hR : w.heap[R]? = some (.cells #[p0, p1, p2, p3, p4] T (0, 0))) (a b c d e : Value) :
    (((((w.setCell ⟨R, 0, none⟩ a).setCell ⟨R, 1, none⟩ b).setCell ⟨R, 2, none⟩ c).setCell ⟨R, 3, none⟩ d).setCell ⟨R, 4, none⟩ e).heap[R]? = some (.cells #[a, b, c, d, e] T (0, 0)) :=
  heap_setCell_same (heap_setCell_same (heap_setCell_same (heap_setCell_same (heap_setCell_same hR 0 a) 1 b) 2 c) 3 d) 4 e
theorem set4_at {w : World} {R : Nat} {p0 p1 p2 p3 : Value} {T : TypeId} (hR : w.heap[R]? = some (.cells #[p0, p1, p2, p3] T (0, 0))) (a b c d : Value) :
    ((((w.setCell ⟨R, 0, none⟩ a).setCell ⟨R, 1, none⟩ b).setCell ⟨R, 2, none⟩ c).setCell ⟨R, 3, none⟩ d).heap[R]? = some (.cells #[a, b, c, d] T (0, 0)) :=
  heap_setCell_same (heap_setCell_same (heap_setCell_same (heap_setCell_same hR 0 a) 1 b) 2 c) 3 d
theorem grown_set5 (w : World) (R : Nat) (a b c d e : Value) : w.grownBy (((((w.setCell ⟨R, 0, none⟩ a).setCell ⟨R, 1, none⟩ b).setCell ⟨R, 2, none⟩ c).setCell ⟨R, 3, none⟩ d).setCell ⟨R, 4, none⟩ e) (some R) :=
  grown_trans (grown_set4 w R a b c d) (grown_setCell _ _ _ _)
/-- In the midst of do: the operation lies in the block P, the terminal that was read in the next. -/
structure DU (w0 w W : World) (b M : Nat) (V : AV) (G : Nat → Prop) (P : Nat) (oc rc : Array Value) : Prop where
  s : QM w0 W b M V (fun k => G k ∨ k = P ∨ k = P + 1)
  op : W.heap[P]? = some (.cells oc 23 (0, 0))
  res : W.heap[P + 1]? = some (.cells rc 38 (0, 0))
  g : ∀ k, G k → W.heap[k]? = w.heap[k]?
  ne : ∀ k, G k → k < P
section
variable {w0 w W W' : World} {b M P : Nat} {V V' : AV} {G : Nat → Prop} {oc rc : Array Value}
theorem DU.start (s : QM w0 w b M V G) (oc rc : Array Value) : DU w0 w ((w.alloc (.cells oc 23)).alloc (.cells rc 38)) b M V G w.heap.size oc rc := by
  have hb : Below w.heap.size w ((w.alloc (.cells oc 23)).alloc (.cells rc 38)) := ((Below.refl _ _).alloc (Nat.le_refl _) _).alloc (by simp) _
  have h2 := World.alloc_heap_new (w.alloc (.cells oc 23)) (.cells rc 38)
  rw [World.size_alloc] at h2
  refine ⟨s.fresh hb (fun _ hk => ?_), (Below.heap_alloc _ _ _ (by simp)).trans (World.alloc_heap_new w _), h2, fun k hk => hb.block k (s.glt hk), fun k hk => s.glt hk⟩
  rcases hk with hk | hk | hk
  · exact .inl hk
  · exact .inr ⟨by omega, by simp; omega⟩
  · exact .inr ⟨by omega, by simp; omega⟩
theorem DU.later (d : DU w0 w W b M V G P oc rc) (hb : Below W.heap.size W W') : DU w0 w W' b M V G P oc rc :=
  ⟨d.s.later hb, (hb.block _ (lt_of_heap d.op)).trans d.op, (hb.block _ (lt_of_heap d.res)).trans d.res, fun k hk => (hb.block k (d.s.glt (.inl hk))).trans (d.g k hk), d.ne⟩
theorem DU.step (d : DU w0 w W b M V G P oc rc) (s : QM w0 W' b M V' (fun k => G k ∨ k = P ∨ k = P + 1)) (hk : ∀ k, (G k ∨ k = P ∨ k = P + 1) → W'.heap[k]? = W.heap[k]?) : DU w0 w W' b M V' G P oc rc :=
  ⟨s, (hk _ (.inr (.inl rfl))).trans d.op, (hk _ (.inr (.inr rfl))).trans d.res, fun k h => (hk k (.inl h)).trans (d.g k h), d.ne⟩
theorem DU.setOp {p0 p1 p2 p3 p4 : Value} (d : DU w0 w W b M V G P #[p0, p1, p2, p3, p4] rc) (a0 a1 a2 a3 a4 : Value) : DU w0 w (((((W.setCell ⟨P, 0, none⟩ a0).setCell ⟨P, 1, none⟩ a1).setCell ⟨P, 2, none⟩ a2).setCell ⟨P, 3, none⟩ a3).setCell ⟨P, 4, none⟩ a4) b M V G P #[a0, a1, a2, a3, a4] rc := by
  have hg := grown_set5 W P a0 a1 a2 a3 a4
  refine ⟨d.s.guarded (Kept.of_grown hg _ (fun k hk => by cases hk; exact .inr (.inl rfl))) (fun k hk => .inl hk), set5_at d.op _ _ _ _ _, (hg.block _ (lt_of_heap d.res) (fun e => by have := Option.some.inj e; omega)).trans d.res, fun k hk => (hg.block k (d.s.glt (.inl hk)) (fun e => by have := Option.some.inj e; have := d.ne k hk; omega)).trans (d.g k hk), d.ne⟩
theorem DU.setRes {p0 p1 p2 p3 : Value} (d : DU w0 w W b M V G P oc #[p0, p1, p2, p3]) (a0 a1 a2 a3 : Value) : DU w0 w ((((W.setCell ⟨P + 1, 0, none⟩ a0).setCell ⟨P + 1, 1, none⟩ a1).setCell ⟨P + 1, 2, none⟩ a2).setCell ⟨P + 1, 3, none⟩ a3) b M V G P oc #[a0, a1, a2, a3] := by
  have hg := grown_set4 W (P + 1) a0 a1 a2 a3
  refine ⟨d.s.guarded (Kept.of_grown hg _ (fun k hk => by cases hk; exact .inr (.inr rfl))) (fun k hk => .inl hk), (hg.block _ (lt_of_heap d.op) (fun e => by have := Option.some.inj e; omega)).trans d.op, set4_at d.res _ _ _ _, fun k hk => (hg.block k (d.s.glt (.inl hk)) (fun e => by have := Option.some.inj e; have := d.ne k hk; omega)).trans (d.g k hk), d.ne⟩
theorem DU.done (d : DU w0 w W b M V G P oc rc) : QM w0 W b M V G ∧ ∀ k, G k → W.heap[k]? = w.heap[k]? :=
  ⟨d.s.fresh (Below.refl _ _) (fun _ hk => .inl (.inl hk)), d.g⟩
end
/-- What do leaves. -/
def DoUPost (w0 w : World) (b M : Nat) (V : AV) (G : Nat → Prop) (o : OpU) (r : Ending) (w' : World) : Prop :=
  ∃ a n c, r = .returned (.tuple #[.int .i64 (uE V o), .string (uLine V o), .agg #[.int .i64 (uGot V o).epoch, .string (uGot V o).session, .slice a n c, .string (uGot V o).screen]]) ∧ SRow w' (.slice a n c) (uGot V o).typed ∧ QM w0 w' b M (uV V o) G ∧ ∀ k, G k → w'.heap[k]? = w.heap[k]?
theorem doU_none {w0 w W : World} {b M P : Nat} {V V' : AV} {G : Nat → Prop} {oc rc : Array Value} {o : OpU} {e : Nat} {line : ByteArray} (d : DU w0 w W b M V' G P oc rc) (h1 : uV V o = V') (h2 : uE V o = e) (h3 : uLine V o = line) (h4 : uGot V o = zeroT) :
    DoUPost w0 w b M V G o (.returned (.tuple #[.int .i64 e, .string line, .agg #[.int .i64 0, .string ⟨#[]⟩, .slice none 0 0, .string ⟨#[]⟩]])) W := by
  subst h1 h2 h3
  obtain ⟨a1, a2⟩ := d.done
  unfold DoUPost
  rw [h4]
  exact ⟨none, 0, 0, rfl, World.ownsRow_nil _ _ _ _, a1, a2⟩
theorem doU_got {w0 w W : World} {b M P : Nat} {V V' : AV} {G : Nat → Prop} {oc rc : Array Value} {o : OpU} {e : Nat} {t : TermT} {a : Option Addr} {n c : Nat} (d : DU w0 w W b M V' G P oc rc) (h1 : uV V o = V') (h2 : uE V o = e) (h3 : uLine V o = ⟨#[]⟩) (h4 : uGot V o = t) (hr : SRow W (.slice a n c) t.typed) :
    DoUPost w0 w b M V G o (.returned (.tuple #[.int .i64 e, .string ⟨#[]⟩, .agg #[.int .i64 t.epoch, .string t.session, .slice a n c, .string t.screen]])) W := by
  subst h1 h2 h4
  obtain ⟨a1, a2⟩ := d.done
  unfold DoUPost
  rw [h3]
  exact ⟨a, n, c, rfl, hr, a1, a2⟩
set_option maxRecDepth 100000 in
set_option maxHeartbeats 4000000 in
theorem do36_0 {w0 w : World} {b M : Nat} {V : AV} {G : Nat → Prop} (s : QM w0 w b M V G) (kd : Nat) (num ep : Int) (who text : ByteArray) (hkd : kd ≤ 255) (hw : who.size ≤ 9223372036854775807) (ht : text.size ≤ 9223372036854775807) (hlen : V.calls.length < 1000000) (hj : kd % 8 = 0) :
    Calls Tryz.prog 10 #[.pointer (some ⟨b, 0, none⟩), .agg #[.int .u8 kd, .int .i64 num, .int .i64 ep, .string who, .string text]] w (DoUPost w0 w b M V G (shortU ⟨kd, num, ep, who, text⟩)) := by
  have D0 := Lib.hid (DU.start s #[.int .u8 kd, .int .i64 num, .int .i64 ep, .string who, .string text] #[.int .i64 0, .string ⟨#[]⟩, .slice none 0 0, .string ⟨#[]⟩])
  have Hw := Lib.hid hw
  have Ht := Lib.hid ht
  have hj' : ((kd : Int)) % 8 = 0 := by omega
  have HU : Hid (uV V (shortU ⟨kd, num, ep, who, text⟩) = (tChange (opBegin (cutU who 100)) V num ep).1 ∧ uE V (shortU ⟨kd, num, ep, who, text⟩) = (tChange (opBegin (cutU who 100)) V num ep).2 ∧ uLine V (shortU ⟨kd, num, ep, who, text⟩) = ⟨#[]⟩ ∧ uGot V (shortU ⟨kd, num, ep, who, text⟩) = zeroT) := by
    have h0 : uCh (shortU ⟨kd, num, ep, who, text⟩) = true := by unfold uCh shortU; simp [hj]
    have h1 : uOp (shortU ⟨kd, num, ep, who, text⟩) = opBegin (cutU who 100) := by unfold uOp shortU; simp [hj]
    refine ⟨(if_pos h0).trans (by rw [h1]; rfl), (if_pos h0).trans (by rw [h1]; rfl), if_neg (by unfold shortU; dsimp only; omega), if_neg (by unfold shortU; dsimp only; omega)⟩
  clear hw ht s
  go_enter Tryz.func10, Tryz.ntmps10
  go_wp2_with fail
  generalize (w.alloc (.cells #[.int .u8 kd, .int .i64 num, .int .i64 ep, .string who, .string text] 23)).alloc (.cells #[.int .i64 0, .string ⟨#[]⟩, .slice none 0 0, .string ⟨#[]⟩] 38) = W0 at *
  generalize w.heap.size = P at *
  refine (short36_any kd num ep who text _ Hw.out Ht.out).mono ?_
  rintro r w2 ⟨rfl, hb2⟩
  have D2 := Lib.hid (D0.out.later hb2)
  have D3 := Lib.hid (D2.out.setOp (.int .u8 kd) (.int .i64 num) (.int .i64 ep) (.string (cutU who 100)) (.string (cutU text 3000)))
  clear hb2 D0
  have hfo : ∀ i, w2.frozen? ⟨P, i, none⟩ = false := fun i => frozen_of_heap D2.out.op i
  have f0 := hfo 0
  have f1 := hfo 1
  have f2 := hfo 2
  have f3 := hfo 3
  have f4 := hfo 4
  have o0 : w2.cell? ⟨P, 0, none⟩ = some (.int .u8 kd) := cell_of_heap D2.out.op 0
  have o1 : w2.cell? ⟨P, 1, none⟩ = some (.int .i64 num) := cell_of_heap D2.out.op 1
  have o2 : w2.cell? ⟨P, 2, none⟩ = some (.int .i64 ep) := cell_of_heap D2.out.op 2
  have o3 : w2.cell? ⟨P, 3, none⟩ = some (.string who) := cell_of_heap D2.out.op 3
  have o4 : w2.cell? ⟨P, 4, none⟩ = some (.string text) := cell_of_heap D2.out.op 4
  clear hfo
  go_wp2_with fail
  clear f0 f1 f2 f3 f4 o0 o1 o2 o3 o4 D2
  generalize ((((w2.setCell ⟨P, 0, none⟩ (.int .u8 kd)).setCell ⟨P, 1, none⟩ (.int .i64 num)).setCell ⟨P, 2, none⟩ (.int .i64 ep)).setCell ⟨P, 3, none⟩ (.string (cutU who 100))).setCell ⟨P, 4, none⟩ (.string (cutU text 3000)) = W3 at *
  refine (qtBegin D3.out.s hlen num ep (cutU who 100) (by have := cutU_size who 100; omega)).mono ?_
  rintro r w4 ⟨rfl, s4, hk4⟩
  have D4 := Lib.hid (D3.out.step s4 hk4)
  clear s4 hk4 D3
  generalize tChange (opBegin (cutU who 100)) V num ep = tr at *
  obtain ⟨V1, q⟩ := tr
  dsimp only at HU D4 ⊢
  go_upto_region 16 with fail
  have D6 := Lib.hid ((D4.out.later (Below.refl _ _).drew).setRes (.int .i64 0) (.string ⟨#[]⟩) (.slice none 0 0) (.string ⟨#[]⟩))
  have D7 := Lib.hid ((D4.out.setRes (.int .i64 0) (.string ⟨#[]⟩) (.slice none 0 0) (.string ⟨#[]⟩)).later (Below.refl _ _).drew)
  have r0 : w4.cell? ⟨P + 1, 0, none⟩ = some (.int .i64 0) := cell_of_heap D4.out.res 0
  have r1 : w4.cell? ⟨P + 1, 1, none⟩ = some (.string ⟨#[]⟩) := cell_of_heap D4.out.res 1
  have r2 : w4.cell? ⟨P + 1, 2, none⟩ = some (.slice none 0 0) := cell_of_heap D4.out.res 2
  have r3 : w4.cell? ⟨P + 1, 3, none⟩ = some (.string ⟨#[]⟩) := cell_of_heap D4.out.res 3
  have f0 := frozen_of_heap D4.out.res 0
  have f1 := frozen_of_heap D4.out.res 1
  have f2 := frozen_of_heap D4.out.res 2
  have f3 := frozen_of_heap D4.out.res 3
  go_region
  all_goals
    go_wp2
    refine bodyPost_ret (v := .tuple #[.int .i64 q, .string ⟨#[]⟩, .agg #[.int .i64 0, .string ⟨#[]⟩, .slice none 0 0, .string ⟨#[]⟩]]) (by simp [results, Tryz.results10, go_sem, r0, r1, r2, r3]) rfl ?_
    first | exact doU_none D6.out HU.out.1 HU.out.2.1 HU.out.2.2.1 HU.out.2.2.2 | exact doU_none D7.out HU.out.1 HU.out.2.1 HU.out.2.2.1 HU.out.2.2.2
set_option maxRecDepth 100000 in
set_option maxHeartbeats 4000000 in
theorem do36_1 {w0 w : World} {b M : Nat} {V : AV} {G : Nat → Prop} (s : QM w0 w b M V G) (kd : Nat) (num ep : Int) (who text : ByteArray) (hkd : kd ≤ 255) (hw : who.size ≤ 9223372036854775807) (ht : text.size ≤ 9223372036854775807) (hlen : V.calls.length < 1000000) (hj : kd % 8 = 1) :
    Calls Tryz.prog 10 #[.pointer (some ⟨b, 0, none⟩), .agg #[.int .u8 kd, .int .i64 num, .int .i64 ep, .string who, .string text]] w (DoUPost w0 w b M V G (shortU ⟨kd, num, ep, who, text⟩)) := by
  have D0 := Lib.hid (DU.start s #[.int .u8 kd, .int .i64 num, .int .i64 ep, .string who, .string text] #[.int .i64 0, .string ⟨#[]⟩, .slice none 0 0, .string ⟨#[]⟩])
  have Hw := Lib.hid hw
  have Ht := Lib.hid ht
  have hj' : ((kd : Int)) % 8 = 1 := by omega
  have HU : Hid (uV V (shortU ⟨kd, num, ep, who, text⟩) = (tChange (opEnd (cutU who 100)) V num ep).1 ∧ uE V (shortU ⟨kd, num, ep, who, text⟩) = (tChange (opEnd (cutU who 100)) V num ep).2 ∧ uLine V (shortU ⟨kd, num, ep, who, text⟩) = ⟨#[]⟩ ∧ uGot V (shortU ⟨kd, num, ep, who, text⟩) = zeroT) := by
    have h0 : uCh (shortU ⟨kd, num, ep, who, text⟩) = true := by unfold uCh shortU; simp [hj]
    have h1 : uOp (shortU ⟨kd, num, ep, who, text⟩) = opEnd (cutU who 100) := by unfold uOp shortU; simp [hj]
    refine ⟨(if_pos h0).trans (by rw [h1]; rfl), (if_pos h0).trans (by rw [h1]; rfl), if_neg (by unfold shortU; dsimp only; omega), if_neg (by unfold shortU; dsimp only; omega)⟩
  clear hw ht s
  go_enter Tryz.func10, Tryz.ntmps10
  go_wp2_with fail
  generalize (w.alloc (.cells #[.int .u8 kd, .int .i64 num, .int .i64 ep, .string who, .string text] 23)).alloc (.cells #[.int .i64 0, .string ⟨#[]⟩, .slice none 0 0, .string ⟨#[]⟩] 38) = W0 at *
  generalize w.heap.size = P at *
  refine (short36_any kd num ep who text _ Hw.out Ht.out).mono ?_
  rintro r w2 ⟨rfl, hb2⟩
  have D2 := Lib.hid (D0.out.later hb2)
  have D3 := Lib.hid (D2.out.setOp (.int .u8 kd) (.int .i64 num) (.int .i64 ep) (.string (cutU who 100)) (.string (cutU text 3000)))
  clear hb2 D0
  have hfo : ∀ i, w2.frozen? ⟨P, i, none⟩ = false := fun i => frozen_of_heap D2.out.op i
  have f0 := hfo 0
  have f1 := hfo 1
  have f2 := hfo 2
  have f3 := hfo 3
  have f4 := hfo 4
  have o0 : w2.cell? ⟨P, 0, none⟩ = some (.int .u8 kd) := cell_of_heap D2.out.op 0
  have o1 : w2.cell? ⟨P, 1, none⟩ = some (.int .i64 num) := cell_of_heap D2.out.op 1
  have o2 : w2.cell? ⟨P, 2, none⟩ = some (.int .i64 ep) := cell_of_heap D2.out.op 2
  have o3 : w2.cell? ⟨P, 3, none⟩ = some (.string who) := cell_of_heap D2.out.op 3
  have o4 : w2.cell? ⟨P, 4, none⟩ = some (.string text) := cell_of_heap D2.out.op 4
  clear hfo
  go_wp2_with fail
  clear f0 f1 f2 f3 f4 o0 o1 o2 o3 o4 D2
  generalize ((((w2.setCell ⟨P, 0, none⟩ (.int .u8 kd)).setCell ⟨P, 1, none⟩ (.int .i64 num)).setCell ⟨P, 2, none⟩ (.int .i64 ep)).setCell ⟨P, 3, none⟩ (.string (cutU who 100))).setCell ⟨P, 4, none⟩ (.string (cutU text 3000)) = W3 at *
  refine (qtEnd D3.out.s hlen num ep (cutU who 100)).mono ?_
  rintro r w4 ⟨rfl, s4, hk4⟩
  have D4 := Lib.hid (D3.out.step s4 hk4)
  clear s4 hk4 D3
  generalize tChange (opEnd (cutU who 100)) V num ep = tr at *
  obtain ⟨V1, q⟩ := tr
  dsimp only at HU D4 ⊢
  go_upto_region 16 with fail
  have D6 := Lib.hid ((D4.out.later (Below.refl _ _).drew).setRes (.int .i64 0) (.string ⟨#[]⟩) (.slice none 0 0) (.string ⟨#[]⟩))
  have D7 := Lib.hid ((D4.out.setRes (.int .i64 0) (.string ⟨#[]⟩) (.slice none 0 0) (.string ⟨#[]⟩)).later (Below.refl _ _).drew)
  have r0 : w4.cell? ⟨P + 1, 0, none⟩ = some (.int .i64 0) := cell_of_heap D4.out.res 0
  have r1 : w4.cell? ⟨P + 1, 1, none⟩ = some (.string ⟨#[]⟩) := cell_of_heap D4.out.res 1
  have r2 : w4.cell? ⟨P + 1, 2, none⟩ = some (.slice none 0 0) := cell_of_heap D4.out.res 2
  have r3 : w4.cell? ⟨P + 1, 3, none⟩ = some (.string ⟨#[]⟩) := cell_of_heap D4.out.res 3
  have f0 := frozen_of_heap D4.out.res 0
  have f1 := frozen_of_heap D4.out.res 1
  have f2 := frozen_of_heap D4.out.res 2
  have f3 := frozen_of_heap D4.out.res 3
  go_region
  all_goals
    go_wp2
    refine bodyPost_ret (v := .tuple #[.int .i64 q, .string ⟨#[]⟩, .agg #[.int .i64 0, .string ⟨#[]⟩, .slice none 0 0, .string ⟨#[]⟩]]) (by simp [results, Tryz.results10, go_sem, r0, r1, r2, r3]) rfl ?_
    first | exact doU_none D6.out HU.out.1 HU.out.2.1 HU.out.2.2.1 HU.out.2.2.2 | exact doU_none D7.out HU.out.1 HU.out.2.1 HU.out.2.2.1 HU.out.2.2.2
set_option maxRecDepth 100000 in
set_option maxHeartbeats 4000000 in
theorem do36_2 {w0 w : World} {b M : Nat} {V : AV} {G : Nat → Prop} (s : QM w0 w b M V G) (kd : Nat) (num ep : Int) (who text : ByteArray) (hkd : kd ≤ 255) (hw : who.size ≤ 9223372036854775807) (ht : text.size ≤ 9223372036854775807) (hlen : V.calls.length < 1000000) (hj : kd % 8 = 2) :
    Calls Tryz.prog 10 #[.pointer (some ⟨b, 0, none⟩), .agg #[.int .u8 kd, .int .i64 num, .int .i64 ep, .string who, .string text]] w (DoUPost w0 w b M V G (shortU ⟨kd, num, ep, who, text⟩)) := by
  have D0 := Lib.hid (DU.start s #[.int .u8 kd, .int .i64 num, .int .i64 ep, .string who, .string text] #[.int .i64 0, .string ⟨#[]⟩, .slice none 0 0, .string ⟨#[]⟩])
  have Hw := Lib.hid hw
  have Ht := Lib.hid ht
  have hj' : ((kd : Int)) % 8 = 2 := by omega
  have HU : Hid (uV V (shortU ⟨kd, num, ep, who, text⟩) = (tChange (opAdd (cutU text 3000)) V num ep).1 ∧ uE V (shortU ⟨kd, num, ep, who, text⟩) = (tChange (opAdd (cutU text 3000)) V num ep).2 ∧ uLine V (shortU ⟨kd, num, ep, who, text⟩) = ⟨#[]⟩ ∧ uGot V (shortU ⟨kd, num, ep, who, text⟩) = zeroT) := by
    have h0 : uCh (shortU ⟨kd, num, ep, who, text⟩) = true := by unfold uCh shortU; simp [hj]
    have h1 : uOp (shortU ⟨kd, num, ep, who, text⟩) = opAdd (cutU text 3000) := by unfold uOp shortU; simp [hj]
    refine ⟨(if_pos h0).trans (by rw [h1]; rfl), (if_pos h0).trans (by rw [h1]; rfl), if_neg (by unfold shortU; dsimp only; omega), if_neg (by unfold shortU; dsimp only; omega)⟩
  clear hw ht s
  go_enter Tryz.func10, Tryz.ntmps10
  go_wp2_with fail
  generalize (w.alloc (.cells #[.int .u8 kd, .int .i64 num, .int .i64 ep, .string who, .string text] 23)).alloc (.cells #[.int .i64 0, .string ⟨#[]⟩, .slice none 0 0, .string ⟨#[]⟩] 38) = W0 at *
  generalize w.heap.size = P at *
  refine (short36_any kd num ep who text _ Hw.out Ht.out).mono ?_
  rintro r w2 ⟨rfl, hb2⟩
  have D2 := Lib.hid (D0.out.later hb2)
  have D3 := Lib.hid (D2.out.setOp (.int .u8 kd) (.int .i64 num) (.int .i64 ep) (.string (cutU who 100)) (.string (cutU text 3000)))
  clear hb2 D0
  have hfo : ∀ i, w2.frozen? ⟨P, i, none⟩ = false := fun i => frozen_of_heap D2.out.op i
  have f0 := hfo 0
  have f1 := hfo 1
  have f2 := hfo 2
  have f3 := hfo 3
  have f4 := hfo 4
  have o0 : w2.cell? ⟨P, 0, none⟩ = some (.int .u8 kd) := cell_of_heap D2.out.op 0
  have o1 : w2.cell? ⟨P, 1, none⟩ = some (.int .i64 num) := cell_of_heap D2.out.op 1
  have o2 : w2.cell? ⟨P, 2, none⟩ = some (.int .i64 ep) := cell_of_heap D2.out.op 2
  have o3 : w2.cell? ⟨P, 3, none⟩ = some (.string who) := cell_of_heap D2.out.op 3
  have o4 : w2.cell? ⟨P, 4, none⟩ = some (.string text) := cell_of_heap D2.out.op 4
  clear hfo
  go_wp2_with fail
  clear f0 f1 f2 f3 f4 o0 o1 o2 o3 o4 D2
  generalize ((((w2.setCell ⟨P, 0, none⟩ (.int .u8 kd)).setCell ⟨P, 1, none⟩ (.int .i64 num)).setCell ⟨P, 2, none⟩ (.int .i64 ep)).setCell ⟨P, 3, none⟩ (.string (cutU who 100))).setCell ⟨P, 4, none⟩ (.string (cutU text 3000)) = W3 at *
  refine (qtType D3.out.s hlen num ep (cutU text 3000) (by have := cutU_size text 3000; omega)).mono ?_
  rintro r w4 ⟨rfl, s4, hk4⟩
  have D4 := Lib.hid (D3.out.step s4 hk4)
  clear s4 hk4 D3
  generalize tChange (opAdd (cutU text 3000)) V num ep = tr at *
  obtain ⟨V1, q⟩ := tr
  dsimp only at HU D4 ⊢
  go_upto_region 16 with fail
  have D6 := Lib.hid ((D4.out.later (Below.refl _ _).drew).setRes (.int .i64 0) (.string ⟨#[]⟩) (.slice none 0 0) (.string ⟨#[]⟩))
  have D7 := Lib.hid ((D4.out.setRes (.int .i64 0) (.string ⟨#[]⟩) (.slice none 0 0) (.string ⟨#[]⟩)).later (Below.refl _ _).drew)
  have r0 : w4.cell? ⟨P + 1, 0, none⟩ = some (.int .i64 0) := cell_of_heap D4.out.res 0
  have r1 : w4.cell? ⟨P + 1, 1, none⟩ = some (.string ⟨#[]⟩) := cell_of_heap D4.out.res 1
  have r2 : w4.cell? ⟨P + 1, 2, none⟩ = some (.slice none 0 0) := cell_of_heap D4.out.res 2
  have r3 : w4.cell? ⟨P + 1, 3, none⟩ = some (.string ⟨#[]⟩) := cell_of_heap D4.out.res 3
  have f0 := frozen_of_heap D4.out.res 0
  have f1 := frozen_of_heap D4.out.res 1
  have f2 := frozen_of_heap D4.out.res 2
  have f3 := frozen_of_heap D4.out.res 3
  go_region
  all_goals
    go_wp2
    refine bodyPost_ret (v := .tuple #[.int .i64 q, .string ⟨#[]⟩, .agg #[.int .i64 0, .string ⟨#[]⟩, .slice none 0 0, .string ⟨#[]⟩]]) (by simp [results, Tryz.results10, go_sem, r0, r1, r2, r3]) rfl ?_
    first | exact doU_none D6.out HU.out.1 HU.out.2.1 HU.out.2.2.1 HU.out.2.2.2 | exact doU_none D7.out HU.out.1 HU.out.2.1 HU.out.2.2.1 HU.out.2.2.2
set_option maxRecDepth 100000 in
set_option maxHeartbeats 4000000 in
theorem do36_3 {w0 w : World} {b M : Nat} {V : AV} {G : Nat → Prop} (s : QM w0 w b M V G) (kd : Nat) (num ep : Int) (who text : ByteArray) (hkd : kd ≤ 255) (hw : who.size ≤ 9223372036854775807) (ht : text.size ≤ 9223372036854775807) (hlen : V.calls.length < 1000000) (hj : kd % 8 = 3) :
    Calls Tryz.prog 10 #[.pointer (some ⟨b, 0, none⟩), .agg #[.int .u8 kd, .int .i64 num, .int .i64 ep, .string who, .string text]] w (DoUPost w0 w b M V G (shortU ⟨kd, num, ep, who, text⟩)) := by
  have D0 := Lib.hid (DU.start s #[.int .u8 kd, .int .i64 num, .int .i64 ep, .string who, .string text] #[.int .i64 0, .string ⟨#[]⟩, .slice none 0 0, .string ⟨#[]⟩])
  have Hw := Lib.hid hw
  have Ht := Lib.hid ht
  have hj' : ((kd : Int)) % 8 = 3 := by omega
  have HU : Hid (uV V (shortU ⟨kd, num, ep, who, text⟩) = (tChange (opAdd (cutU text 3000)) V num ep).1 ∧ uE V (shortU ⟨kd, num, ep, who, text⟩) = (tChange (opAdd (cutU text 3000)) V num ep).2 ∧ uLine V (shortU ⟨kd, num, ep, who, text⟩) = ⟨#[]⟩ ∧ uGot V (shortU ⟨kd, num, ep, who, text⟩) = zeroT) := by
    have h0 : uCh (shortU ⟨kd, num, ep, who, text⟩) = true := by unfold uCh shortU; simp [hj]
    have h1 : uOp (shortU ⟨kd, num, ep, who, text⟩) = opAdd (cutU text 3000) := by unfold uOp shortU; simp [hj]
    refine ⟨(if_pos h0).trans (by rw [h1]; rfl), (if_pos h0).trans (by rw [h1]; rfl), if_neg (by unfold shortU; dsimp only; omega), if_neg (by unfold shortU; dsimp only; omega)⟩
  clear hw ht s
  go_enter Tryz.func10, Tryz.ntmps10
  go_wp2_with fail
  generalize (w.alloc (.cells #[.int .u8 kd, .int .i64 num, .int .i64 ep, .string who, .string text] 23)).alloc (.cells #[.int .i64 0, .string ⟨#[]⟩, .slice none 0 0, .string ⟨#[]⟩] 38) = W0 at *
  generalize w.heap.size = P at *
  refine (short36_any kd num ep who text _ Hw.out Ht.out).mono ?_
  rintro r w2 ⟨rfl, hb2⟩
  have D2 := Lib.hid (D0.out.later hb2)
  have D3 := Lib.hid (D2.out.setOp (.int .u8 kd) (.int .i64 num) (.int .i64 ep) (.string (cutU who 100)) (.string (cutU text 3000)))
  clear hb2 D0
  have hfo : ∀ i, w2.frozen? ⟨P, i, none⟩ = false := fun i => frozen_of_heap D2.out.op i
  have f0 := hfo 0
  have f1 := hfo 1
  have f2 := hfo 2
  have f3 := hfo 3
  have f4 := hfo 4
  have o0 : w2.cell? ⟨P, 0, none⟩ = some (.int .u8 kd) := cell_of_heap D2.out.op 0
  have o1 : w2.cell? ⟨P, 1, none⟩ = some (.int .i64 num) := cell_of_heap D2.out.op 1
  have o2 : w2.cell? ⟨P, 2, none⟩ = some (.int .i64 ep) := cell_of_heap D2.out.op 2
  have o3 : w2.cell? ⟨P, 3, none⟩ = some (.string who) := cell_of_heap D2.out.op 3
  have o4 : w2.cell? ⟨P, 4, none⟩ = some (.string text) := cell_of_heap D2.out.op 4
  clear hfo
  go_wp2_with fail
  clear f0 f1 f2 f3 f4 o0 o1 o2 o3 o4 D2
  generalize ((((w2.setCell ⟨P, 0, none⟩ (.int .u8 kd)).setCell ⟨P, 1, none⟩ (.int .i64 num)).setCell ⟨P, 2, none⟩ (.int .i64 ep)).setCell ⟨P, 3, none⟩ (.string (cutU who 100))).setCell ⟨P, 4, none⟩ (.string (cutU text 3000)) = W3 at *
  refine (qtType D3.out.s hlen num ep (cutU text 3000) (by have := cutU_size text 3000; omega)).mono ?_
  rintro r w4 ⟨rfl, s4, hk4⟩
  have D4 := Lib.hid (D3.out.step s4 hk4)
  clear s4 hk4 D3
  generalize tChange (opAdd (cutU text 3000)) V num ep = tr at *
  obtain ⟨V1, q⟩ := tr
  dsimp only at HU D4 ⊢
  go_upto_region 16 with fail
  have D6 := Lib.hid ((D4.out.later (Below.refl _ _).drew).setRes (.int .i64 0) (.string ⟨#[]⟩) (.slice none 0 0) (.string ⟨#[]⟩))
  have D7 := Lib.hid ((D4.out.setRes (.int .i64 0) (.string ⟨#[]⟩) (.slice none 0 0) (.string ⟨#[]⟩)).later (Below.refl _ _).drew)
  have r0 : w4.cell? ⟨P + 1, 0, none⟩ = some (.int .i64 0) := cell_of_heap D4.out.res 0
  have r1 : w4.cell? ⟨P + 1, 1, none⟩ = some (.string ⟨#[]⟩) := cell_of_heap D4.out.res 1
  have r2 : w4.cell? ⟨P + 1, 2, none⟩ = some (.slice none 0 0) := cell_of_heap D4.out.res 2
  have r3 : w4.cell? ⟨P + 1, 3, none⟩ = some (.string ⟨#[]⟩) := cell_of_heap D4.out.res 3
  have f0 := frozen_of_heap D4.out.res 0
  have f1 := frozen_of_heap D4.out.res 1
  have f2 := frozen_of_heap D4.out.res 2
  have f3 := frozen_of_heap D4.out.res 3
  go_region
  all_goals
    go_wp2
    refine bodyPost_ret (v := .tuple #[.int .i64 q, .string ⟨#[]⟩, .agg #[.int .i64 0, .string ⟨#[]⟩, .slice none 0 0, .string ⟨#[]⟩]]) (by simp [results, Tryz.results10, go_sem, r0, r1, r2, r3]) rfl ?_
    first | exact doU_none D6.out HU.out.1 HU.out.2.1 HU.out.2.2.1 HU.out.2.2.2 | exact doU_none D7.out HU.out.1 HU.out.2.1 HU.out.2.2.1 HU.out.2.2.2
set_option maxRecDepth 100000 in
set_option maxHeartbeats 4000000 in
theorem do36_4 {w0 w : World} {b M : Nat} {V : AV} {G : Nat → Prop} (s : QM w0 w b M V G) (kd : Nat) (num ep : Int) (who text : ByteArray) (hkd : kd ≤ 255) (hw : who.size ≤ 9223372036854775807) (ht : text.size ≤ 9223372036854775807) (hlen : V.calls.length < 1000000) (hj : kd % 8 = 4) :
    Calls Tryz.prog 10 #[.pointer (some ⟨b, 0, none⟩), .agg #[.int .u8 kd, .int .i64 num, .int .i64 ep, .string who, .string text]] w (DoUPost w0 w b M V G (shortU ⟨kd, num, ep, who, text⟩)) := by
  have D0 := Lib.hid (DU.start s #[.int .u8 kd, .int .i64 num, .int .i64 ep, .string who, .string text] #[.int .i64 0, .string ⟨#[]⟩, .slice none 0 0, .string ⟨#[]⟩])
  have Hw := Lib.hid hw
  have Ht := Lib.hid ht
  have hj' : ((kd : Int)) % 8 = 4 := by omega
  have HU : Hid (uV V (shortU ⟨kd, num, ep, who, text⟩) = (tChange (opTake (cutU who 100)) V num ep).1 ∧ uE V (shortU ⟨kd, num, ep, who, text⟩) = (tChange (opTake (cutU who 100)) V num ep).2 ∧ uLine V (shortU ⟨kd, num, ep, who, text⟩) = (tRead (cutU who 100) V num ep).2.1 ∧ uGot V (shortU ⟨kd, num, ep, who, text⟩) = zeroT) := by
    have h0 : uCh (shortU ⟨kd, num, ep, who, text⟩) = true := by unfold uCh shortU; simp [hj]
    have h1 : uOp (shortU ⟨kd, num, ep, who, text⟩) = opTake (cutU who 100) := by unfold uOp shortU; simp [hj]
    refine ⟨(if_pos h0).trans (by rw [h1]; rfl), (if_pos h0).trans (by rw [h1]; rfl), if_pos (by unfold shortU; dsimp only; omega), if_neg (by unfold shortU; dsimp only; omega)⟩
  clear hw ht s
  go_enter Tryz.func10, Tryz.ntmps10
  go_wp2_with fail
  generalize (w.alloc (.cells #[.int .u8 kd, .int .i64 num, .int .i64 ep, .string who, .string text] 23)).alloc (.cells #[.int .i64 0, .string ⟨#[]⟩, .slice none 0 0, .string ⟨#[]⟩] 38) = W0 at *
  generalize w.heap.size = P at *
  refine (short36_any kd num ep who text _ Hw.out Ht.out).mono ?_
  rintro r w2 ⟨rfl, hb2⟩
  have D2 := Lib.hid (D0.out.later hb2)
  have D3 := Lib.hid (D2.out.setOp (.int .u8 kd) (.int .i64 num) (.int .i64 ep) (.string (cutU who 100)) (.string (cutU text 3000)))
  clear hb2 D0
  have hfo : ∀ i, w2.frozen? ⟨P, i, none⟩ = false := fun i => frozen_of_heap D2.out.op i
  have f0 := hfo 0
  have f1 := hfo 1
  have f2 := hfo 2
  have f3 := hfo 3
  have f4 := hfo 4
  have o0 : w2.cell? ⟨P, 0, none⟩ = some (.int .u8 kd) := cell_of_heap D2.out.op 0
  have o1 : w2.cell? ⟨P, 1, none⟩ = some (.int .i64 num) := cell_of_heap D2.out.op 1
  have o2 : w2.cell? ⟨P, 2, none⟩ = some (.int .i64 ep) := cell_of_heap D2.out.op 2
  have o3 : w2.cell? ⟨P, 3, none⟩ = some (.string who) := cell_of_heap D2.out.op 3
  have o4 : w2.cell? ⟨P, 4, none⟩ = some (.string text) := cell_of_heap D2.out.op 4
  clear hfo
  go_wp2_with fail
  clear f0 f1 f2 f3 f4 o0 o1 o2 o3 o4 D2
  generalize ((((w2.setCell ⟨P, 0, none⟩ (.int .u8 kd)).setCell ⟨P, 1, none⟩ (.int .i64 num)).setCell ⟨P, 2, none⟩ (.int .i64 ep)).setCell ⟨P, 3, none⟩ (.string (cutU who 100))).setCell ⟨P, 4, none⟩ (.string (cutU text 3000)) = W3 at *
  refine (qtRead D3.out.s hlen num ep (cutU who 100) (by have := cutU_size who 100; omega)).mono ?_
  rintro r w4 ⟨rfl, s4, hk4⟩
  have D4 := Lib.hid (D3.out.step s4 hk4)
  clear s4 hk4 D3
  have HR1 : Hid ((tRead (cutU who 100) V num ep).1 = (tChange (opTake (cutU who 100)) V num ep).1) := rfl
  have HR2 : Hid ((tRead (cutU who 100) V num ep).2.2 = (tChange (opTake (cutU who 100)) V num ep).2) := rfl
  rw [← HR1.out, ← HR2.out] at HU
  generalize tRead (cutU who 100) V num ep = tr at *
  obtain ⟨V1, ln, q⟩ := tr
  clear HR1 HR2
  dsimp only at HU D4 ⊢
  go_upto_region 16 with fail
  have D6 := Lib.hid ((D4.out.later (Below.refl _ _).drew).setRes (.int .i64 0) (.string ⟨#[]⟩) (.slice none 0 0) (.string ⟨#[]⟩))
  have D7 := Lib.hid ((D4.out.setRes (.int .i64 0) (.string ⟨#[]⟩) (.slice none 0 0) (.string ⟨#[]⟩)).later (Below.refl _ _).drew)
  have r0 : w4.cell? ⟨P + 1, 0, none⟩ = some (.int .i64 0) := cell_of_heap D4.out.res 0
  have r1 : w4.cell? ⟨P + 1, 1, none⟩ = some (.string ⟨#[]⟩) := cell_of_heap D4.out.res 1
  have r2 : w4.cell? ⟨P + 1, 2, none⟩ = some (.slice none 0 0) := cell_of_heap D4.out.res 2
  have r3 : w4.cell? ⟨P + 1, 3, none⟩ = some (.string ⟨#[]⟩) := cell_of_heap D4.out.res 3
  have f0 := frozen_of_heap D4.out.res 0
  have f1 := frozen_of_heap D4.out.res 1
  have f2 := frozen_of_heap D4.out.res 2
  have f3 := frozen_of_heap D4.out.res 3
  go_region
  all_goals
    go_wp2
    refine bodyPost_ret (v := .tuple #[.int .i64 q, .string ln, .agg #[.int .i64 0, .string ⟨#[]⟩, .slice none 0 0, .string ⟨#[]⟩]]) (by simp [results, Tryz.results10, go_sem, r0, r1, r2, r3]) rfl ?_
    first | exact doU_none D6.out HU.out.1 HU.out.2.1 HU.out.2.2.1 HU.out.2.2.2 | exact doU_none D7.out HU.out.1 HU.out.2.1 HU.out.2.2.1 HU.out.2.2.2
set_option maxRecDepth 100000 in
set_option maxHeartbeats 4000000 in
theorem do36_5 {w0 w : World} {b M : Nat} {V : AV} {G : Nat → Prop} (s : QM w0 w b M V G) (kd : Nat) (num ep : Int) (who text : ByteArray) (hkd : kd ≤ 255) (hw : who.size ≤ 9223372036854775807) (ht : text.size ≤ 9223372036854775807) (hlen : V.calls.length < 1000000) (hj : kd % 8 = 5) :
    Calls Tryz.prog 10 #[.pointer (some ⟨b, 0, none⟩), .agg #[.int .u8 kd, .int .i64 num, .int .i64 ep, .string who, .string text]] w (DoUPost w0 w b M V G (shortU ⟨kd, num, ep, who, text⟩)) := by
  have D0 := Lib.hid (DU.start s #[.int .u8 kd, .int .i64 num, .int .i64 ep, .string who, .string text] #[.int .i64 0, .string ⟨#[]⟩, .slice none 0 0, .string ⟨#[]⟩])
  have Hw := Lib.hid hw
  have Ht := Lib.hid ht
  have hj' : ((kd : Int)) % 8 = 5 := by omega
  have HU : Hid (uV V (shortU ⟨kd, num, ep, who, text⟩) = (tChange (opTake (cutU who 100)) V num ep).1 ∧ uE V (shortU ⟨kd, num, ep, who, text⟩) = (tChange (opTake (cutU who 100)) V num ep).2 ∧ uLine V (shortU ⟨kd, num, ep, who, text⟩) = (tRead (cutU who 100) V num ep).2.1 ∧ uGot V (shortU ⟨kd, num, ep, who, text⟩) = zeroT) := by
    have h0 : uCh (shortU ⟨kd, num, ep, who, text⟩) = true := by unfold uCh shortU; simp [hj]
    have h1 : uOp (shortU ⟨kd, num, ep, who, text⟩) = opTake (cutU who 100) := by unfold uOp shortU; simp [hj]
    refine ⟨(if_pos h0).trans (by rw [h1]; rfl), (if_pos h0).trans (by rw [h1]; rfl), if_pos (by unfold shortU; dsimp only; omega), if_neg (by unfold shortU; dsimp only; omega)⟩
  clear hw ht s
  go_enter Tryz.func10, Tryz.ntmps10
  go_wp2_with fail
  generalize (w.alloc (.cells #[.int .u8 kd, .int .i64 num, .int .i64 ep, .string who, .string text] 23)).alloc (.cells #[.int .i64 0, .string ⟨#[]⟩, .slice none 0 0, .string ⟨#[]⟩] 38) = W0 at *
  generalize w.heap.size = P at *
  refine (short36_any kd num ep who text _ Hw.out Ht.out).mono ?_
  rintro r w2 ⟨rfl, hb2⟩
  have D2 := Lib.hid (D0.out.later hb2)
  have D3 := Lib.hid (D2.out.setOp (.int .u8 kd) (.int .i64 num) (.int .i64 ep) (.string (cutU who 100)) (.string (cutU text 3000)))
  clear hb2 D0
  have hfo : ∀ i, w2.frozen? ⟨P, i, none⟩ = false := fun i => frozen_of_heap D2.out.op i
  have f0 := hfo 0
  have f1 := hfo 1
  have f2 := hfo 2
  have f3 := hfo 3
  have f4 := hfo 4
  have o0 : w2.cell? ⟨P, 0, none⟩ = some (.int .u8 kd) := cell_of_heap D2.out.op 0
  have o1 : w2.cell? ⟨P, 1, none⟩ = some (.int .i64 num) := cell_of_heap D2.out.op 1
  have o2 : w2.cell? ⟨P, 2, none⟩ = some (.int .i64 ep) := cell_of_heap D2.out.op 2
  have o3 : w2.cell? ⟨P, 3, none⟩ = some (.string who) := cell_of_heap D2.out.op 3
  have o4 : w2.cell? ⟨P, 4, none⟩ = some (.string text) := cell_of_heap D2.out.op 4
  clear hfo
  go_wp2_with fail
  clear f0 f1 f2 f3 f4 o0 o1 o2 o3 o4 D2
  generalize ((((w2.setCell ⟨P, 0, none⟩ (.int .u8 kd)).setCell ⟨P, 1, none⟩ (.int .i64 num)).setCell ⟨P, 2, none⟩ (.int .i64 ep)).setCell ⟨P, 3, none⟩ (.string (cutU who 100))).setCell ⟨P, 4, none⟩ (.string (cutU text 3000)) = W3 at *
  refine (qtRead D3.out.s hlen num ep (cutU who 100) (by have := cutU_size who 100; omega)).mono ?_
  rintro r w4 ⟨rfl, s4, hk4⟩
  have D4 := Lib.hid (D3.out.step s4 hk4)
  clear s4 hk4 D3
  have HR1 : Hid ((tRead (cutU who 100) V num ep).1 = (tChange (opTake (cutU who 100)) V num ep).1) := rfl
  have HR2 : Hid ((tRead (cutU who 100) V num ep).2.2 = (tChange (opTake (cutU who 100)) V num ep).2) := rfl
  rw [← HR1.out, ← HR2.out] at HU
  generalize tRead (cutU who 100) V num ep = tr at *
  obtain ⟨V1, ln, q⟩ := tr
  clear HR1 HR2
  dsimp only at HU D4 ⊢
  go_upto_region 16 with fail
  have D6 := Lib.hid ((D4.out.later (Below.refl _ _).drew).setRes (.int .i64 0) (.string ⟨#[]⟩) (.slice none 0 0) (.string ⟨#[]⟩))
  have D7 := Lib.hid ((D4.out.setRes (.int .i64 0) (.string ⟨#[]⟩) (.slice none 0 0) (.string ⟨#[]⟩)).later (Below.refl _ _).drew)
  have r0 : w4.cell? ⟨P + 1, 0, none⟩ = some (.int .i64 0) := cell_of_heap D4.out.res 0
  have r1 : w4.cell? ⟨P + 1, 1, none⟩ = some (.string ⟨#[]⟩) := cell_of_heap D4.out.res 1
  have r2 : w4.cell? ⟨P + 1, 2, none⟩ = some (.slice none 0 0) := cell_of_heap D4.out.res 2
  have r3 : w4.cell? ⟨P + 1, 3, none⟩ = some (.string ⟨#[]⟩) := cell_of_heap D4.out.res 3
  have f0 := frozen_of_heap D4.out.res 0
  have f1 := frozen_of_heap D4.out.res 1
  have f2 := frozen_of_heap D4.out.res 2
  have f3 := frozen_of_heap D4.out.res 3
  go_region
  all_goals
    go_wp2
    refine bodyPost_ret (v := .tuple #[.int .i64 q, .string ln, .agg #[.int .i64 0, .string ⟨#[]⟩, .slice none 0 0, .string ⟨#[]⟩]]) (by simp [results, Tryz.results10, go_sem, r0, r1, r2, r3]) rfl ?_
    first | exact doU_none D6.out HU.out.1 HU.out.2.1 HU.out.2.2.1 HU.out.2.2.2 | exact doU_none D7.out HU.out.1 HU.out.2.1 HU.out.2.2.1 HU.out.2.2.2
set_option maxRecDepth 100000 in
set_option maxHeartbeats 4000000 in
theorem do36_6 {w0 w : World} {b M : Nat} {V : AV} {G : Nat → Prop} (s : QM w0 w b M V G) (kd : Nat) (num ep : Int) (who text : ByteArray) (hkd : kd ≤ 255) (hw : who.size ≤ 9223372036854775807) (ht : text.size ≤ 9223372036854775807) (hlen : V.calls.length < 1000000) (hj : kd % 8 = 6) :
    Calls Tryz.prog 10 #[.pointer (some ⟨b, 0, none⟩), .agg #[.int .u8 kd, .int .i64 num, .int .i64 ep, .string who, .string text]] w (DoUPost w0 w b M V G (shortU ⟨kd, num, ep, who, text⟩)) := by
  have D0 := Lib.hid (DU.start s #[.int .u8 kd, .int .i64 num, .int .i64 ep, .string who, .string text] #[.int .i64 0, .string ⟨#[]⟩, .slice none 0 0, .string ⟨#[]⟩])
  have Hw := Lib.hid hw
  have Ht := Lib.hid ht
  have hj' : ((kd : Int)) % 8 = 6 := by omega
  have HU : Hid (uV V (shortU ⟨kd, num, ep, who, text⟩) = (tShow (cutU text 3000) V num ep).1 ∧ uE V (shortU ⟨kd, num, ep, who, text⟩) = (tShow (cutU text 3000) V num ep).2 ∧ uLine V (shortU ⟨kd, num, ep, who, text⟩) = ⟨#[]⟩ ∧ uGot V (shortU ⟨kd, num, ep, who, text⟩) = zeroT) := by
    have h1 : uOp (shortU ⟨kd, num, ep, who, text⟩) = opShow (cutU text 3000) := by unfold uOp shortU; simp [hj]
    refine ⟨?_, ?_, if_neg (by unfold shortU; dsimp only; omega), if_neg (by unfold shortU; dsimp only; omega)⟩
    · unfold uV uCh tShow
      rw [h1]
      unfold shortU
      by_cases h : (cutU text 3000).size = 0 <;> simp [h, hj]
    · unfold uE uCh tShow
      rw [h1]
      unfold shortU
      by_cases h : (cutU text 3000).size = 0 <;> simp [h, hj]
  clear hw ht s
  go_enter Tryz.func10, Tryz.ntmps10
  go_wp2_with fail
  generalize (w.alloc (.cells #[.int .u8 kd, .int .i64 num, .int .i64 ep, .string who, .string text] 23)).alloc (.cells #[.int .i64 0, .string ⟨#[]⟩, .slice none 0 0, .string ⟨#[]⟩] 38) = W0 at *
  generalize w.heap.size = P at *
  refine (short36_any kd num ep who text _ Hw.out Ht.out).mono ?_
  rintro r w2 ⟨rfl, hb2⟩
  have D2 := Lib.hid (D0.out.later hb2)
  have D3 := Lib.hid (D2.out.setOp (.int .u8 kd) (.int .i64 num) (.int .i64 ep) (.string (cutU who 100)) (.string (cutU text 3000)))
  clear hb2 D0
  have hfo : ∀ i, w2.frozen? ⟨P, i, none⟩ = false := fun i => frozen_of_heap D2.out.op i
  have f0 := hfo 0
  have f1 := hfo 1
  have f2 := hfo 2
  have f3 := hfo 3
  have f4 := hfo 4
  have o0 : w2.cell? ⟨P, 0, none⟩ = some (.int .u8 kd) := cell_of_heap D2.out.op 0
  have o1 : w2.cell? ⟨P, 1, none⟩ = some (.int .i64 num) := cell_of_heap D2.out.op 1
  have o2 : w2.cell? ⟨P, 2, none⟩ = some (.int .i64 ep) := cell_of_heap D2.out.op 2
  have o3 : w2.cell? ⟨P, 3, none⟩ = some (.string who) := cell_of_heap D2.out.op 3
  have o4 : w2.cell? ⟨P, 4, none⟩ = some (.string text) := cell_of_heap D2.out.op 4
  clear hfo
  go_wp2_with fail
  clear f0 f1 f2 f3 f4 o0 o1 o2 o3 o4 D2
  generalize ((((w2.setCell ⟨P, 0, none⟩ (.int .u8 kd)).setCell ⟨P, 1, none⟩ (.int .i64 num)).setCell ⟨P, 2, none⟩ (.int .i64 ep)).setCell ⟨P, 3, none⟩ (.string (cutU who 100))).setCell ⟨P, 4, none⟩ (.string (cutU text 3000)) = W3 at *
  refine (qtShow D3.out.s hlen num ep (cutU text 3000) (by have := cutU_size text 3000; omega)).mono ?_
  rintro r w4 ⟨rfl, s4, hk4⟩
  have D4 := Lib.hid (D3.out.step s4 hk4)
  clear s4 hk4 D3
  generalize tShow (cutU text 3000) V num ep = tr at *
  obtain ⟨V1, q⟩ := tr
  dsimp only at HU D4 ⊢
  go_upto_region 16 with fail
  have D6 := Lib.hid ((D4.out.later (Below.refl _ _).drew).setRes (.int .i64 0) (.string ⟨#[]⟩) (.slice none 0 0) (.string ⟨#[]⟩))
  have D7 := Lib.hid ((D4.out.setRes (.int .i64 0) (.string ⟨#[]⟩) (.slice none 0 0) (.string ⟨#[]⟩)).later (Below.refl _ _).drew)
  have r0 : w4.cell? ⟨P + 1, 0, none⟩ = some (.int .i64 0) := cell_of_heap D4.out.res 0
  have r1 : w4.cell? ⟨P + 1, 1, none⟩ = some (.string ⟨#[]⟩) := cell_of_heap D4.out.res 1
  have r2 : w4.cell? ⟨P + 1, 2, none⟩ = some (.slice none 0 0) := cell_of_heap D4.out.res 2
  have r3 : w4.cell? ⟨P + 1, 3, none⟩ = some (.string ⟨#[]⟩) := cell_of_heap D4.out.res 3
  have f0 := frozen_of_heap D4.out.res 0
  have f1 := frozen_of_heap D4.out.res 1
  have f2 := frozen_of_heap D4.out.res 2
  have f3 := frozen_of_heap D4.out.res 3
  go_region
  all_goals
    go_wp2
    refine bodyPost_ret (v := .tuple #[.int .i64 q, .string ⟨#[]⟩, .agg #[.int .i64 0, .string ⟨#[]⟩, .slice none 0 0, .string ⟨#[]⟩]]) (by simp [results, Tryz.results10, go_sem, r0, r1, r2, r3]) rfl ?_
    first | exact doU_none D6.out HU.out.1 HU.out.2.1 HU.out.2.2.1 HU.out.2.2.2 | exact doU_none D7.out HU.out.1 HU.out.2.1 HU.out.2.2.1 HU.out.2.2.2
set_option maxRecDepth 100000 in
set_option maxHeartbeats 4000000 in
theorem do36_7 {w0 w : World} {b M : Nat} {V : AV} {G : Nat → Prop} (s : QM w0 w b M V G) (kd : Nat) (num ep : Int) (who text : ByteArray) (hkd : kd ≤ 255) (hw : who.size ≤ 9223372036854775807) (ht : text.size ≤ 9223372036854775807) (_hlen : V.calls.length < 1000000) (hj : kd % 8 = 7) :
    Calls Tryz.prog 10 #[.pointer (some ⟨b, 0, none⟩), .agg #[.int .u8 kd, .int .i64 num, .int .i64 ep, .string who, .string text]] w (DoUPost w0 w b M V G (shortU ⟨kd, num, ep, who, text⟩)) := by
  have D0 := Lib.hid (DU.start s #[.int .u8 kd, .int .i64 num, .int .i64 ep, .string who, .string text] #[.int .i64 0, .string ⟨#[]⟩, .slice none 0 0, .string ⟨#[]⟩])
  have Hw := Lib.hid hw
  have Ht := Lib.hid ht
  have hj' : ((kd : Int)) % 8 = 7 := by omega
  have HU : Hid (uV V (shortU ⟨kd, num, ep, who, text⟩) = tSeen V num ep ∧ uE V (shortU ⟨kd, num, ep, who, text⟩) = (tGet V num ep).2 ∧ uLine V (shortU ⟨kd, num, ep, who, text⟩) = ⟨#[]⟩ ∧ uGot V (shortU ⟨kd, num, ep, who, text⟩) = (tGet V num ep).1) := by
    have h0 : uCh (shortU ⟨kd, num, ep, who, text⟩) = false := by unfold uCh shortU; simp [hj]
    refine ⟨if_neg (by rw [h0]; exact fun h => nomatch h), if_neg (by rw [h0]; exact fun h => nomatch h), if_neg (by unfold shortU; dsimp only; omega), if_pos hj⟩
  clear hw ht s
  go_enter Tryz.func10, Tryz.ntmps10
  go_wp2_with fail
  generalize (w.alloc (.cells #[.int .u8 kd, .int .i64 num, .int .i64 ep, .string who, .string text] 23)).alloc (.cells #[.int .i64 0, .string ⟨#[]⟩, .slice none 0 0, .string ⟨#[]⟩] 38) = W0 at *
  generalize w.heap.size = P at *
  refine (short36_any kd num ep who text _ Hw.out Ht.out).mono ?_
  rintro r w2 ⟨rfl, hb2⟩
  have D2 := Lib.hid (D0.out.later hb2)
  have D3 := Lib.hid (D2.out.setOp (.int .u8 kd) (.int .i64 num) (.int .i64 ep) (.string (cutU who 100)) (.string (cutU text 3000)))
  clear hb2 D0
  have hfo : ∀ i, w2.frozen? ⟨P, i, none⟩ = false := fun i => frozen_of_heap D2.out.op i
  have f0 := hfo 0
  have f1 := hfo 1
  have f2 := hfo 2
  have f3 := hfo 3
  have f4 := hfo 4
  have o0 : w2.cell? ⟨P, 0, none⟩ = some (.int .u8 kd) := cell_of_heap D2.out.op 0
  have o1 : w2.cell? ⟨P, 1, none⟩ = some (.int .i64 num) := cell_of_heap D2.out.op 1
  have o2 : w2.cell? ⟨P, 2, none⟩ = some (.int .i64 ep) := cell_of_heap D2.out.op 2
  have o3 : w2.cell? ⟨P, 3, none⟩ = some (.string who) := cell_of_heap D2.out.op 3
  have o4 : w2.cell? ⟨P, 4, none⟩ = some (.string text) := cell_of_heap D2.out.op 4
  clear hfo
  go_wp2_with fail
  clear f0 f1 f2 f3 f4 o0 o1 o2 o3 o4 D2
  generalize ((((w2.setCell ⟨P, 0, none⟩ (.int .u8 kd)).setCell ⟨P, 1, none⟩ (.int .i64 num)).setCell ⟨P, 2, none⟩ (.int .i64 ep)).setCell ⟨P, 3, none⟩ (.string (cutU who 100))).setCell ⟨P, 4, none⟩ (.string (cutU text 3000)) = W3 at *
  refine (qtGet D3.out.s num ep).mono ?_
  rintro r w4 ⟨a, n, c, rfl, hrow, hown, s4, hk4⟩
  have D4 := Lib.hid (D3.out.step s4 hk4)
  have hP4 := lt_of_heap D3.out.res
  have HRow := Lib.hid hrow
  have HOwn : Hid (∀ g, (Value.slice a n c).ownBlock = some g → g ≠ P + 1) := fun g hg => by have := hown g hg; omega
  clear s4 hk4 D3 hrow hown
  generalize tGet V num ep = tg at *
  obtain ⟨⟨te, ts, tl, tc⟩, tq⟩ := tg
  dsimp only at HU HRow ⊢
  have D5 := Lib.hid (D4.out.setRes (.int .i64 te) (.string ts) (.slice a n c) (.string tc))
  have HRow5 := Lib.hid (HRow.out.grown (grown_set4 w4 (P + 1) (.int .i64 te) (.string ts) (.slice a n c) (.string tc)) (fun k hk e => by cases hk; exact HOwn.out _ e rfl))
  have f0 := frozen_of_heap D4.out.res 0
  have f1 := frozen_of_heap D4.out.res 1
  have f2 := frozen_of_heap D4.out.res 2
  have f3 := frozen_of_heap D4.out.res 3
  have r0 : w4.cell? ⟨P + 1, 0, none⟩ = some (.int .i64 0) := cell_of_heap D4.out.res 0
  have r1 : w4.cell? ⟨P + 1, 1, none⟩ = some (.string ⟨#[]⟩) := cell_of_heap D4.out.res 1
  have r2 : w4.cell? ⟨P + 1, 2, none⟩ = some (.slice none 0 0) := cell_of_heap D4.out.res 2
  have r3 : w4.cell? ⟨P + 1, 3, none⟩ = some (.string ⟨#[]⟩) := cell_of_heap D4.out.res 3
  go_upto_region 16 with fail
  clear f0 f1 f2 f3 r0 r1 r2 r3 D4 HRow
  generalize (((w4.setCell ⟨P + 1, 0, none⟩ (.int .i64 te)).setCell ⟨P + 1, 1, none⟩ (.string ts)).setCell ⟨P + 1, 2, none⟩ (.slice a n c)).setCell ⟨P + 1, 3, none⟩ (.string tc) = W5 at *
  have D6 := Lib.hid ((D5.out.later (Below.refl _ _).drew).setRes (.int .i64 te) (.string ts) (.slice a n c) (.string tc))
  have D7 := Lib.hid ((D5.out.setRes (.int .i64 te) (.string ts) (.slice a n c) (.string tc)).later (Below.refl _ _).drew)
  have HRow6 := Lib.hid (HRow5.out.grown (grown_set4 W5 (P + 1) (.int .i64 te) (.string ts) (.slice a n c) (.string tc)) (fun k hk e => by cases hk; exact HOwn.out _ e rfl))
  have r0 : W5.cell? ⟨P + 1, 0, none⟩ = some (.int .i64 te) := cell_of_heap D5.out.res 0
  have r1 : W5.cell? ⟨P + 1, 1, none⟩ = some (.string ts) := cell_of_heap D5.out.res 1
  have r2 : W5.cell? ⟨P + 1, 2, none⟩ = some (.slice a n c) := cell_of_heap D5.out.res 2
  have r3 : W5.cell? ⟨P + 1, 3, none⟩ = some (.string tc) := cell_of_heap D5.out.res 3
  have f0 := frozen_of_heap D5.out.res 0
  have f1 := frozen_of_heap D5.out.res 1
  have f2 := frozen_of_heap D5.out.res 2
  have f3 := frozen_of_heap D5.out.res 3
  go_region
  all_goals
    go_wp2
    refine bodyPost_ret (v := .tuple #[.int .i64 tq, .string ⟨#[]⟩, .agg #[.int .i64 te, .string ts, .slice a n c, .string tc]]) (by simp [results, Tryz.results10, go_sem, r0, r1, r2, r3]) rfl ?_
    first | exact doU_got D6.out HU.out.1 HU.out.2.1 HU.out.2.2.1 HU.out.2.2.2 HRow6.out | exact doU_got D7.out HU.out.1 HU.out.2.1 HU.out.2.2.1 HU.out.2.2.2 HRow6.out
theorem do36_any {w0 w : World} {b M : Nat} {V : AV} {G : Nat → Prop} (s : QM w0 w b M V G) (o : OpU) (hkd : o.kd ≤ 255) (hw : o.who.size ≤ 9223372036854775807) (ht : o.text.size ≤ 9223372036854775807) (hlen : V.calls.length < 1000000) :
    Calls Tryz.prog 10 #[.pointer (some ⟨b, 0, none⟩), opuV o] w (DoUPost w0 w b M V G (shortU o)) := by
  obtain ⟨kd, num, ep, who, text⟩ := o
  dsimp only at hkd hw ht
  have h : kd % 8 = 0 ∨ kd % 8 = 1 ∨ kd % 8 = 2 ∨ kd % 8 = 3 ∨ kd % 8 = 4 ∨ kd % 8 = 5 ∨ kd % 8 = 6 ∨ kd % 8 = 7 := by omega
  rcases h with h | h | h | h | h | h | h | h
  · exact do36_0 s kd num ep who text hkd hw ht hlen h
  · exact do36_1 s kd num ep who text hkd hw ht hlen h
  · exact do36_2 s kd num ep who text hkd hw ht hlen h
  · exact do36_3 s kd num ep who text hkd hw ht hlen h
  · exact do36_4 s kd num ep who text hkd hw ht hlen h
  · exact do36_5 s kd num ep who text hkd hw ht hlen h
  · exact do36_6 s kd num ep who text hkd hw ht hlen h
  · exact do36_7 s kd num ep who text hkd hw ht hlen h
end Go.Proofs.YtfobmfenjdiimaaGreatDoor

namespace Go.Proofs.YtfobmfenjdiimaaGreatDoor
open Go.RowKit
attribute [local go_sem ↓] Go.wp_at_zero Go.wp_at_succ

set_option maxRecDepth 100000 in
set_option maxHeartbeats 800000 in
theorem nGet_any (n e : Int) (w : World) : Calls Tryz.prog 21 #[.pointer none, .int .i64 n, .int .i64 e] w fun r w' => r = .returned (.tuple #[.agg #[.int .i64 0, .string ⟨#[]⟩, .slice none 0 0, .string ⟨#[]⟩], .int .i64 1]) ∧ Below w.heap.size w w' := by
  have HB : Hid (∀ o, Below w.heap.size w (w.alloc o)) := fun o => (Below.refl _ _).alloc (Nat.le_refl _) _
  go_enter Tryz.func21, Tryz.ntmps21
  go_wp2
  refine bodyPost_ret (v := .tuple #[.agg #[.int .i64 0, .string ⟨#[]⟩, .slice none 0 0, .string ⟨#[]⟩], .int .i64 1]) (by simp [results, Tryz.results21, go_sem]) rfl ?_
  refine ⟨rfl, ?_⟩
  first | exact HB.out _ | exact Below.grownRow (HB.out _) (grown_set4 _ _ _ _ _ _) (Nat.le_refl _) (fun k hk => by cases hk; exact Nat.le_refl _)
set_option maxRecDepth 100000 in
set_option maxHeartbeats 800000 in
theorem nChange_any (n e : Int) (f : Value) (w : World) : Calls Tryz.prog 35 #[.pointer none, .int .i64 n, .int .i64 e, f] w fun r w' => r = .returned (.int .i64 1) ∧ Below w.heap.size w w' := by
  go_enter Tryz.func35, Tryz.ntmps35
  go_wp2_with fail
  refine (nGet_any _ _ _).mono ?_
  rintro r w1 ⟨rfl, hb⟩
  have HB1 := Lib.hid hb
  clear hb
  go_wp2
  go_ret
  exact ⟨rfl, HB1.out.alloc HB1.out.size _⟩
set_option maxRecDepth 100000 in
set_option maxHeartbeats 800000 in
theorem nBegin_any (n e : Int) (l : ByteArray) (w : World) : Calls Tryz.prog 19 #[.pointer none, .int .i64 n, .int .i64 e, .string l] w fun r w' => r = .returned (.int .i64 1) ∧ Below w.heap.size w w' := by
  have hmf : ∀ (fn : Fn) (first cap : Array Value) (w : World), (Instr.makeFunc fn first cap).run Tryz.prog w = .ok (.func fn first cap) w := fun _ _ _ _ => rfl
  have HB : Hid (∀ o, Below w.heap.size w (w.alloc o)) := fun o => (Below.refl _ _).alloc (Nat.le_refl _) _
  go_enter Tryz.func19, Tryz.ntmps19
  go_wp2_with fail
  refine (nChange_any _ _ _ _).mono ?_
  rintro r w1 ⟨rfl, hb⟩
  have HB1 : Hid (Below w.heap.size w w1) := hb
  clear hb HB
  go_wp2
  go_ret
  exact ⟨rfl, HB1.out⟩
set_option maxRecDepth 100000 in
set_option maxHeartbeats 800000 in
theorem nEnd_any (n e : Int) (l : ByteArray) (w : World) : Calls Tryz.prog 29 #[.pointer none, .int .i64 n, .int .i64 e, .string l] w fun r w' => r = .returned (.int .i64 1) ∧ Below w.heap.size w w' := by
  have hmf : ∀ (fn : Fn) (first cap : Array Value) (w : World), (Instr.makeFunc fn first cap).run Tryz.prog w = .ok (.func fn first cap) w := fun _ _ _ _ => rfl
  have HB : Hid (∀ o, Below w.heap.size w (w.alloc o)) := fun o => (Below.refl _ _).alloc (Nat.le_refl _) _
  go_enter Tryz.func29, Tryz.ntmps29
  go_wp2_with fail
  refine (nChange_any _ _ _ _).mono ?_
  rintro r w1 ⟨rfl, hb⟩
  have HB1 : Hid (Below w.heap.size w w1) := hb
  clear hb HB
  go_wp2
  go_ret
  exact ⟨rfl, HB1.out⟩
set_option maxRecDepth 100000 in
set_option maxHeartbeats 800000 in
theorem nType_any (n e : Int) (l : ByteArray) (w : World) : Calls Tryz.prog 20 #[.pointer none, .int .i64 n, .int .i64 e, .string l] w fun r w' => r = .returned (.int .i64 1) ∧ Below w.heap.size w w' := by
  have hmf : ∀ (fn : Fn) (first cap : Array Value) (w : World), (Instr.makeFunc fn first cap).run Tryz.prog w = .ok (.func fn first cap) w := fun _ _ _ _ => rfl
  have HB : Hid (∀ o, Below w.heap.size w (w.alloc o)) := fun o => (Below.refl _ _).alloc (Nat.le_refl _) _
  go_enter Tryz.func20, Tryz.ntmps20
  go_wp2_with fail
  refine (nChange_any _ _ _ _).mono ?_
  rintro r w1 ⟨rfl, hb⟩
  have HB1 : Hid (Below w.heap.size w w1) := hb
  clear hb HB
  go_wp2
  go_ret
  exact ⟨rfl, HB1.out⟩
set_option maxRecDepth 100000 in
set_option maxHeartbeats 800000 in
theorem nRead_any (n e : Int) (l : ByteArray) (w : World) : Calls Tryz.prog 23 #[.pointer none, .int .i64 n, .int .i64 e, .string l] w fun r w' => r = .returned (.tuple #[.string ⟨#[]⟩, .int .i64 1]) ∧ Below w.heap.size w w' := by
  have hmf : ∀ (fn : Fn) (first cap : Array Value) (w : World), (Instr.makeFunc fn first cap).run Tryz.prog w = .ok (.func fn first cap) w := fun _ _ _ _ => rfl
  have HB : Hid (∀ o, Below w.heap.size w (w.alloc o)) := fun o => (Below.refl _ _).alloc (Nat.le_refl _) _
  go_enter Tryz.func23, Tryz.ntmps23
  go_wp2_with fail
  refine (nChange_any _ _ _ _).mono ?_
  rintro r w1 ⟨rfl, hb⟩
  have HB1 : Hid (Below w.heap.size w w1) := (HB.out _).trans (hb.mono (HB.out _).size)
  clear hb HB
  go_wp2
  go_ret2
  exact ⟨rfl, HB1.out⟩
set_option maxRecDepth 100000 in
set_option maxHeartbeats 800000 in
theorem nShow_any (n e : Int) (l : ByteArray) (w : World) : Calls Tryz.prog 13 #[.pointer none, .int .i64 n, .int .i64 e, .string l] w fun r w' => r = .returned (.int .i64 1) ∧ Below w.heap.size w w' := by
  have hmf : ∀ (fn : Fn) (first cap : Array Value) (w : World), (Instr.makeFunc fn first cap).run Tryz.prog w = .ok (.func fn first cap) w := fun _ _ _ _ => rfl
  by_cases h : l.size = 0
  · have he := empty_of h
    clear h
    go_enter Tryz.func13, Tryz.ntmps13
    go_wp2_with fail
    refine (nGet_any _ _ _).mono ?_
    rintro r w1 ⟨rfl, hb⟩
    have HB1 := Lib.hid hb
    clear hb
    go_wp2
    go_ret
    exact ⟨rfl, by first | exact HB1.out | exact HB1.out.alloc HB1.out.size _⟩
  · have he := nonempty_of h
    clear h
    go_enter Tryz.func13, Tryz.ntmps13
    go_wp2_with fail
    refine (nChange_any _ _ _ _).mono ?_
    rintro r w1 ⟨rfl, hb⟩
    have HB1 := Lib.hid hb
    clear hb
    go_wp2
    go_ret
    exact ⟨rfl, by first | exact HB1.out | exact HB1.out.alloc HB1.out.size _⟩
/-- In the midst of do without a view. -/
structure DN (w W : World) (P : Nat) (oc rc : Array Value) : Prop where
  low : Below w.heap.size w W
  op : W.heap[P]? = some (.cells oc 23 (0, 0))
  res : W.heap[P + 1]? = some (.cells rc 38 (0, 0))
  ge : w.heap.size ≤ P
section
variable {w W W' : World} {P : Nat} {oc rc : Array Value}
theorem DN.start (w : World) (oc rc : Array Value) : DN w ((w.alloc (.cells oc 23)).alloc (.cells rc 38)) w.heap.size oc rc := by
  have h2 := World.alloc_heap_new (w.alloc (.cells oc 23)) (.cells rc 38)
  rw [World.size_alloc] at h2
  exact ⟨((Below.refl _ _).alloc (Nat.le_refl _) _).alloc (by simp) _, (Below.heap_alloc _ _ _ (by simp)).trans (World.alloc_heap_new w _), h2, Nat.le_refl _⟩
theorem DN.later (d : DN w W P oc rc) (hb : Below W.heap.size W W') : DN w W' P oc rc :=
  ⟨d.low.trans (hb.mono d.low.size), (hb.block _ (lt_of_heap d.op)).trans d.op, (hb.block _ (lt_of_heap d.res)).trans d.res, d.ge⟩
theorem DN.setOp {p0 p1 p2 p3 p4 : Value} (d : DN w W P #[p0, p1, p2, p3, p4] rc) (a0 a1 a2 a3 a4 : Value) : DN w (((((W.setCell ⟨P, 0, none⟩ a0).setCell ⟨P, 1, none⟩ a1).setCell ⟨P, 2, none⟩ a2).setCell ⟨P, 3, none⟩ a3).setCell ⟨P, 4, none⟩ a4) P #[a0, a1, a2, a3, a4] rc := by
  have hg := grown_set5 W P a0 a1 a2 a3 a4
  exact ⟨Below.grownRow d.low hg (Nat.le_refl _) (fun k hk => by cases hk; exact d.ge), set5_at d.op _ _ _ _ _, (hg.block _ (lt_of_heap d.res) (fun e => by have := Option.some.inj e; omega)).trans d.res, d.ge⟩
theorem DN.setRes {p0 p1 p2 p3 : Value} (d : DN w W P oc #[p0, p1, p2, p3]) (a0 a1 a2 a3 : Value) : DN w ((((W.setCell ⟨P + 1, 0, none⟩ a0).setCell ⟨P + 1, 1, none⟩ a1).setCell ⟨P + 1, 2, none⟩ a2).setCell ⟨P + 1, 3, none⟩ a3) P oc #[a0, a1, a2, a3] := by
  have hg := grown_set4 W (P + 1) a0 a1 a2 a3
  exact ⟨Below.grownRow d.low hg (Nat.le_refl _) (fun k hk => by cases hk; have := d.ge; omega), (hg.block _ (lt_of_heap d.op) (fun e => by have := Option.some.inj e; omega)).trans d.op, set4_at d.res _ _ _ _, d.ge⟩
end
set_option maxRecDepth 100000 in
set_option maxHeartbeats 4000000 in
theorem don36_0 (kd : Nat) (num ep : Int) (who text : ByteArray) (w : World) (hkd : kd ≤ 255) (hw : who.size ≤ 9223372036854775807) (ht : text.size ≤ 9223372036854775807) (hj : kd % 8 = 0) :
    Calls Tryz.prog 10 #[.pointer none, .agg #[.int .u8 kd, .int .i64 num, .int .i64 ep, .string who, .string text]] w fun r w' => r = .returned (.tuple #[.int .i64 1, .string ⟨#[]⟩, .agg #[.int .i64 0, .string ⟨#[]⟩, .slice none 0 0, .string ⟨#[]⟩]]) ∧ Below w.heap.size w w' := by
  have D0 := Lib.hid (DN.start w #[.int .u8 kd, .int .i64 num, .int .i64 ep, .string who, .string text] #[.int .i64 0, .string ⟨#[]⟩, .slice none 0 0, .string ⟨#[]⟩])
  have Hw := Lib.hid hw
  have Ht := Lib.hid ht
  have hj' : ((kd : Int)) % 8 = 0 := by omega
  clear hw ht hj
  go_enter Tryz.func10, Tryz.ntmps10
  go_wp2_with fail
  generalize (w.alloc (.cells #[.int .u8 kd, .int .i64 num, .int .i64 ep, .string who, .string text] 23)).alloc (.cells #[.int .i64 0, .string ⟨#[]⟩, .slice none 0 0, .string ⟨#[]⟩] 38) = W0 at *
  generalize hP : w.heap.size = P at *
  refine (short36_any kd num ep who text _ Hw.out Ht.out).mono ?_
  rintro r w2 ⟨rfl, hb2⟩
  have D2 := Lib.hid (D0.out.later hb2)
  have D3 := Lib.hid (D2.out.setOp (.int .u8 kd) (.int .i64 num) (.int .i64 ep) (.string (cutU who 100)) (.string (cutU text 3000)))
  clear hb2 D0
  have hfo : ∀ i, w2.frozen? ⟨P, i, none⟩ = false := fun i => frozen_of_heap D2.out.op i
  have f0 := hfo 0
  have f1 := hfo 1
  have f2 := hfo 2
  have f3 := hfo 3
  have f4 := hfo 4
  have o0 : w2.cell? ⟨P, 0, none⟩ = some (.int .u8 kd) := cell_of_heap D2.out.op 0
  have o1 : w2.cell? ⟨P, 1, none⟩ = some (.int .i64 num) := cell_of_heap D2.out.op 1
  have o2 : w2.cell? ⟨P, 2, none⟩ = some (.int .i64 ep) := cell_of_heap D2.out.op 2
  have o3 : w2.cell? ⟨P, 3, none⟩ = some (.string who) := cell_of_heap D2.out.op 3
  have o4 : w2.cell? ⟨P, 4, none⟩ = some (.string text) := cell_of_heap D2.out.op 4
  clear hfo
  go_wp2_with fail
  clear f0 f1 f2 f3 f4 o0 o1 o2 o3 o4 D2
  generalize ((((w2.setCell ⟨P, 0, none⟩ (.int .u8 kd)).setCell ⟨P, 1, none⟩ (.int .i64 num)).setCell ⟨P, 2, none⟩ (.int .i64 ep)).setCell ⟨P, 3, none⟩ (.string (cutU who 100))).setCell ⟨P, 4, none⟩ (.string (cutU text 3000)) = W3 at *
  refine (nBegin_any _ _ _ _).mono ?_
  rintro r w4 ⟨rfl, hb4⟩
  have D4 := Lib.hid (D3.out.later hb4)
  clear hb4 D3
  have r0 : w4.cell? ⟨P + 1, 0, none⟩ = some (.int .i64 0) := cell_of_heap D4.out.res 0
  have r1 : w4.cell? ⟨P + 1, 1, none⟩ = some (.string ⟨#[]⟩) := cell_of_heap D4.out.res 1
  have r2 : w4.cell? ⟨P + 1, 2, none⟩ = some (.slice none 0 0) := cell_of_heap D4.out.res 2
  have r3 : w4.cell? ⟨P + 1, 3, none⟩ = some (.string ⟨#[]⟩) := cell_of_heap D4.out.res 3
  have f0 := frozen_of_heap D4.out.res 0
  have f1 := frozen_of_heap D4.out.res 1
  have f2 := frozen_of_heap D4.out.res 2
  have f3 := frozen_of_heap D4.out.res 3
  go_upto_region 16 with fail
  have D6 := Lib.hid ((D4.out.later (Below.refl _ _).drew).setRes (.int .i64 0) (.string ⟨#[]⟩) (.slice none 0 0) (.string ⟨#[]⟩))
  have D7 := Lib.hid ((D4.out.setRes (.int .i64 0) (.string ⟨#[]⟩) (.slice none 0 0) (.string ⟨#[]⟩)).later (Below.refl _ _).drew)
  go_region
  all_goals
    go_wp2
    refine bodyPost_ret (v := .tuple #[.int .i64 1, .string ⟨#[]⟩, .agg #[.int .i64 0, .string ⟨#[]⟩, .slice none 0 0, .string ⟨#[]⟩]]) (by simp [results, Tryz.results10, go_sem, r0, r1, r2, r3]) rfl ?_
    have L6 := D6.out.low
    have L7 := D7.out.low
    first | exact ⟨rfl, L6⟩ | exact ⟨rfl, L7⟩
set_option maxRecDepth 100000 in
set_option maxHeartbeats 4000000 in
theorem don36_1 (kd : Nat) (num ep : Int) (who text : ByteArray) (w : World) (hkd : kd ≤ 255) (hw : who.size ≤ 9223372036854775807) (ht : text.size ≤ 9223372036854775807) (hj : kd % 8 = 1) :
    Calls Tryz.prog 10 #[.pointer none, .agg #[.int .u8 kd, .int .i64 num, .int .i64 ep, .string who, .string text]] w fun r w' => r = .returned (.tuple #[.int .i64 1, .string ⟨#[]⟩, .agg #[.int .i64 0, .string ⟨#[]⟩, .slice none 0 0, .string ⟨#[]⟩]]) ∧ Below w.heap.size w w' := by
  have D0 := Lib.hid (DN.start w #[.int .u8 kd, .int .i64 num, .int .i64 ep, .string who, .string text] #[.int .i64 0, .string ⟨#[]⟩, .slice none 0 0, .string ⟨#[]⟩])
  have Hw := Lib.hid hw
  have Ht := Lib.hid ht
  have hj' : ((kd : Int)) % 8 = 1 := by omega
  clear hw ht hj
  go_enter Tryz.func10, Tryz.ntmps10
  go_wp2_with fail
  generalize (w.alloc (.cells #[.int .u8 kd, .int .i64 num, .int .i64 ep, .string who, .string text] 23)).alloc (.cells #[.int .i64 0, .string ⟨#[]⟩, .slice none 0 0, .string ⟨#[]⟩] 38) = W0 at *
  generalize hP : w.heap.size = P at *
  refine (short36_any kd num ep who text _ Hw.out Ht.out).mono ?_
  rintro r w2 ⟨rfl, hb2⟩
  have D2 := Lib.hid (D0.out.later hb2)
  have D3 := Lib.hid (D2.out.setOp (.int .u8 kd) (.int .i64 num) (.int .i64 ep) (.string (cutU who 100)) (.string (cutU text 3000)))
  clear hb2 D0
  have hfo : ∀ i, w2.frozen? ⟨P, i, none⟩ = false := fun i => frozen_of_heap D2.out.op i
  have f0 := hfo 0
  have f1 := hfo 1
  have f2 := hfo 2
  have f3 := hfo 3
  have f4 := hfo 4
  have o0 : w2.cell? ⟨P, 0, none⟩ = some (.int .u8 kd) := cell_of_heap D2.out.op 0
  have o1 : w2.cell? ⟨P, 1, none⟩ = some (.int .i64 num) := cell_of_heap D2.out.op 1
  have o2 : w2.cell? ⟨P, 2, none⟩ = some (.int .i64 ep) := cell_of_heap D2.out.op 2
  have o3 : w2.cell? ⟨P, 3, none⟩ = some (.string who) := cell_of_heap D2.out.op 3
  have o4 : w2.cell? ⟨P, 4, none⟩ = some (.string text) := cell_of_heap D2.out.op 4
  clear hfo
  go_wp2_with fail
  clear f0 f1 f2 f3 f4 o0 o1 o2 o3 o4 D2
  generalize ((((w2.setCell ⟨P, 0, none⟩ (.int .u8 kd)).setCell ⟨P, 1, none⟩ (.int .i64 num)).setCell ⟨P, 2, none⟩ (.int .i64 ep)).setCell ⟨P, 3, none⟩ (.string (cutU who 100))).setCell ⟨P, 4, none⟩ (.string (cutU text 3000)) = W3 at *
  refine (nEnd_any _ _ _ _).mono ?_
  rintro r w4 ⟨rfl, hb4⟩
  have D4 := Lib.hid (D3.out.later hb4)
  clear hb4 D3
  have r0 : w4.cell? ⟨P + 1, 0, none⟩ = some (.int .i64 0) := cell_of_heap D4.out.res 0
  have r1 : w4.cell? ⟨P + 1, 1, none⟩ = some (.string ⟨#[]⟩) := cell_of_heap D4.out.res 1
  have r2 : w4.cell? ⟨P + 1, 2, none⟩ = some (.slice none 0 0) := cell_of_heap D4.out.res 2
  have r3 : w4.cell? ⟨P + 1, 3, none⟩ = some (.string ⟨#[]⟩) := cell_of_heap D4.out.res 3
  have f0 := frozen_of_heap D4.out.res 0
  have f1 := frozen_of_heap D4.out.res 1
  have f2 := frozen_of_heap D4.out.res 2
  have f3 := frozen_of_heap D4.out.res 3
  go_upto_region 16 with fail
  have D6 := Lib.hid ((D4.out.later (Below.refl _ _).drew).setRes (.int .i64 0) (.string ⟨#[]⟩) (.slice none 0 0) (.string ⟨#[]⟩))
  have D7 := Lib.hid ((D4.out.setRes (.int .i64 0) (.string ⟨#[]⟩) (.slice none 0 0) (.string ⟨#[]⟩)).later (Below.refl _ _).drew)
  go_region
  all_goals
    go_wp2
    refine bodyPost_ret (v := .tuple #[.int .i64 1, .string ⟨#[]⟩, .agg #[.int .i64 0, .string ⟨#[]⟩, .slice none 0 0, .string ⟨#[]⟩]]) (by simp [results, Tryz.results10, go_sem, r0, r1, r2, r3]) rfl ?_
    have L6 := D6.out.low
    have L7 := D7.out.low
    first | exact ⟨rfl, L6⟩ | exact ⟨rfl, L7⟩
set_option maxRecDepth 100000 in
set_option maxHeartbeats 4000000 in
theorem don36_2 (kd : Nat) (num ep : Int) (who text : ByteArray) (w : World) (hkd : kd ≤ 255) (hw : who.size ≤ 9223372036854775807) (ht : text.size ≤ 9223372036854775807) (hj : kd % 8 = 2) :
    Calls Tryz.prog 10 #[.pointer none, .agg #[.int .u8 kd, .int .i64 num, .int .i64 ep, .string who, .string text]] w fun r w' => r = .returned (.tuple #[.int .i64 1, .string ⟨#[]⟩, .agg #[.int .i64 0, .string ⟨#[]⟩, .slice none 0 0, .string ⟨#[]⟩]]) ∧ Below w.heap.size w w' := by
  have D0 := Lib.hid (DN.start w #[.int .u8 kd, .int .i64 num, .int .i64 ep, .string who, .string text] #[.int .i64 0, .string ⟨#[]⟩, .slice none 0 0, .string ⟨#[]⟩])
  have Hw := Lib.hid hw
  have Ht := Lib.hid ht
  have hj' : ((kd : Int)) % 8 = 2 := by omega
  clear hw ht hj
  go_enter Tryz.func10, Tryz.ntmps10
  go_wp2_with fail
  generalize (w.alloc (.cells #[.int .u8 kd, .int .i64 num, .int .i64 ep, .string who, .string text] 23)).alloc (.cells #[.int .i64 0, .string ⟨#[]⟩, .slice none 0 0, .string ⟨#[]⟩] 38) = W0 at *
  generalize hP : w.heap.size = P at *
  refine (short36_any kd num ep who text _ Hw.out Ht.out).mono ?_
  rintro r w2 ⟨rfl, hb2⟩
  have D2 := Lib.hid (D0.out.later hb2)
  have D3 := Lib.hid (D2.out.setOp (.int .u8 kd) (.int .i64 num) (.int .i64 ep) (.string (cutU who 100)) (.string (cutU text 3000)))
  clear hb2 D0
  have hfo : ∀ i, w2.frozen? ⟨P, i, none⟩ = false := fun i => frozen_of_heap D2.out.op i
  have f0 := hfo 0
  have f1 := hfo 1
  have f2 := hfo 2
  have f3 := hfo 3
  have f4 := hfo 4
  have o0 : w2.cell? ⟨P, 0, none⟩ = some (.int .u8 kd) := cell_of_heap D2.out.op 0
  have o1 : w2.cell? ⟨P, 1, none⟩ = some (.int .i64 num) := cell_of_heap D2.out.op 1
  have o2 : w2.cell? ⟨P, 2, none⟩ = some (.int .i64 ep) := cell_of_heap D2.out.op 2
  have o3 : w2.cell? ⟨P, 3, none⟩ = some (.string who) := cell_of_heap D2.out.op 3
  have o4 : w2.cell? ⟨P, 4, none⟩ = some (.string text) := cell_of_heap D2.out.op 4
  clear hfo
  go_wp2_with fail
  clear f0 f1 f2 f3 f4 o0 o1 o2 o3 o4 D2
  generalize ((((w2.setCell ⟨P, 0, none⟩ (.int .u8 kd)).setCell ⟨P, 1, none⟩ (.int .i64 num)).setCell ⟨P, 2, none⟩ (.int .i64 ep)).setCell ⟨P, 3, none⟩ (.string (cutU who 100))).setCell ⟨P, 4, none⟩ (.string (cutU text 3000)) = W3 at *
  refine (nType_any _ _ _ _).mono ?_
  rintro r w4 ⟨rfl, hb4⟩
  have D4 := Lib.hid (D3.out.later hb4)
  clear hb4 D3
  have r0 : w4.cell? ⟨P + 1, 0, none⟩ = some (.int .i64 0) := cell_of_heap D4.out.res 0
  have r1 : w4.cell? ⟨P + 1, 1, none⟩ = some (.string ⟨#[]⟩) := cell_of_heap D4.out.res 1
  have r2 : w4.cell? ⟨P + 1, 2, none⟩ = some (.slice none 0 0) := cell_of_heap D4.out.res 2
  have r3 : w4.cell? ⟨P + 1, 3, none⟩ = some (.string ⟨#[]⟩) := cell_of_heap D4.out.res 3
  have f0 := frozen_of_heap D4.out.res 0
  have f1 := frozen_of_heap D4.out.res 1
  have f2 := frozen_of_heap D4.out.res 2
  have f3 := frozen_of_heap D4.out.res 3
  go_upto_region 16 with fail
  have D6 := Lib.hid ((D4.out.later (Below.refl _ _).drew).setRes (.int .i64 0) (.string ⟨#[]⟩) (.slice none 0 0) (.string ⟨#[]⟩))
  have D7 := Lib.hid ((D4.out.setRes (.int .i64 0) (.string ⟨#[]⟩) (.slice none 0 0) (.string ⟨#[]⟩)).later (Below.refl _ _).drew)
  go_region
  all_goals
    go_wp2
    refine bodyPost_ret (v := .tuple #[.int .i64 1, .string ⟨#[]⟩, .agg #[.int .i64 0, .string ⟨#[]⟩, .slice none 0 0, .string ⟨#[]⟩]]) (by simp [results, Tryz.results10, go_sem, r0, r1, r2, r3]) rfl ?_
    have L6 := D6.out.low
    have L7 := D7.out.low
    first | exact ⟨rfl, L6⟩ | exact ⟨rfl, L7⟩
set_option maxRecDepth 100000 in
set_option maxHeartbeats 4000000 in
theorem don36_3 (kd : Nat) (num ep : Int) (who text : ByteArray) (w : World) (hkd : kd ≤ 255) (hw : who.size ≤ 9223372036854775807) (ht : text.size ≤ 9223372036854775807) (hj : kd % 8 = 3) :
    Calls Tryz.prog 10 #[.pointer none, .agg #[.int .u8 kd, .int .i64 num, .int .i64 ep, .string who, .string text]] w fun r w' => r = .returned (.tuple #[.int .i64 1, .string ⟨#[]⟩, .agg #[.int .i64 0, .string ⟨#[]⟩, .slice none 0 0, .string ⟨#[]⟩]]) ∧ Below w.heap.size w w' := by
  have D0 := Lib.hid (DN.start w #[.int .u8 kd, .int .i64 num, .int .i64 ep, .string who, .string text] #[.int .i64 0, .string ⟨#[]⟩, .slice none 0 0, .string ⟨#[]⟩])
  have Hw := Lib.hid hw
  have Ht := Lib.hid ht
  have hj' : ((kd : Int)) % 8 = 3 := by omega
  clear hw ht hj
  go_enter Tryz.func10, Tryz.ntmps10
  go_wp2_with fail
  generalize (w.alloc (.cells #[.int .u8 kd, .int .i64 num, .int .i64 ep, .string who, .string text] 23)).alloc (.cells #[.int .i64 0, .string ⟨#[]⟩, .slice none 0 0, .string ⟨#[]⟩] 38) = W0 at *
  generalize hP : w.heap.size = P at *
  refine (short36_any kd num ep who text _ Hw.out Ht.out).mono ?_
  rintro r w2 ⟨rfl, hb2⟩
  have D2 := Lib.hid (D0.out.later hb2)
  have D3 := Lib.hid (D2.out.setOp (.int .u8 kd) (.int .i64 num) (.int .i64 ep) (.string (cutU who 100)) (.string (cutU text 3000)))
  clear hb2 D0
  have hfo : ∀ i, w2.frozen? ⟨P, i, none⟩ = false := fun i => frozen_of_heap D2.out.op i
  have f0 := hfo 0
  have f1 := hfo 1
  have f2 := hfo 2
  have f3 := hfo 3
  have f4 := hfo 4
  have o0 : w2.cell? ⟨P, 0, none⟩ = some (.int .u8 kd) := cell_of_heap D2.out.op 0
  have o1 : w2.cell? ⟨P, 1, none⟩ = some (.int .i64 num) := cell_of_heap D2.out.op 1
  have o2 : w2.cell? ⟨P, 2, none⟩ = some (.int .i64 ep) := cell_of_heap D2.out.op 2
  have o3 : w2.cell? ⟨P, 3, none⟩ = some (.string who) := cell_of_heap D2.out.op 3
  have o4 : w2.cell? ⟨P, 4, none⟩ = some (.string text) := cell_of_heap D2.out.op 4
  clear hfo
  go_wp2_with fail
  clear f0 f1 f2 f3 f4 o0 o1 o2 o3 o4 D2
  generalize ((((w2.setCell ⟨P, 0, none⟩ (.int .u8 kd)).setCell ⟨P, 1, none⟩ (.int .i64 num)).setCell ⟨P, 2, none⟩ (.int .i64 ep)).setCell ⟨P, 3, none⟩ (.string (cutU who 100))).setCell ⟨P, 4, none⟩ (.string (cutU text 3000)) = W3 at *
  refine (nType_any _ _ _ _).mono ?_
  rintro r w4 ⟨rfl, hb4⟩
  have D4 := Lib.hid (D3.out.later hb4)
  clear hb4 D3
  have r0 : w4.cell? ⟨P + 1, 0, none⟩ = some (.int .i64 0) := cell_of_heap D4.out.res 0
  have r1 : w4.cell? ⟨P + 1, 1, none⟩ = some (.string ⟨#[]⟩) := cell_of_heap D4.out.res 1
  have r2 : w4.cell? ⟨P + 1, 2, none⟩ = some (.slice none 0 0) := cell_of_heap D4.out.res 2
  have r3 : w4.cell? ⟨P + 1, 3, none⟩ = some (.string ⟨#[]⟩) := cell_of_heap D4.out.res 3
  have f0 := frozen_of_heap D4.out.res 0
  have f1 := frozen_of_heap D4.out.res 1
  have f2 := frozen_of_heap D4.out.res 2
  have f3 := frozen_of_heap D4.out.res 3
  go_upto_region 16 with fail
  have D6 := Lib.hid ((D4.out.later (Below.refl _ _).drew).setRes (.int .i64 0) (.string ⟨#[]⟩) (.slice none 0 0) (.string ⟨#[]⟩))
  have D7 := Lib.hid ((D4.out.setRes (.int .i64 0) (.string ⟨#[]⟩) (.slice none 0 0) (.string ⟨#[]⟩)).later (Below.refl _ _).drew)
  go_region
  all_goals
    go_wp2
    refine bodyPost_ret (v := .tuple #[.int .i64 1, .string ⟨#[]⟩, .agg #[.int .i64 0, .string ⟨#[]⟩, .slice none 0 0, .string ⟨#[]⟩]]) (by simp [results, Tryz.results10, go_sem, r0, r1, r2, r3]) rfl ?_
    have L6 := D6.out.low
    have L7 := D7.out.low
    first | exact ⟨rfl, L6⟩ | exact ⟨rfl, L7⟩
set_option maxRecDepth 100000 in
set_option maxHeartbeats 4000000 in
theorem don36_4 (kd : Nat) (num ep : Int) (who text : ByteArray) (w : World) (hkd : kd ≤ 255) (hw : who.size ≤ 9223372036854775807) (ht : text.size ≤ 9223372036854775807) (hj : kd % 8 = 4) :
    Calls Tryz.prog 10 #[.pointer none, .agg #[.int .u8 kd, .int .i64 num, .int .i64 ep, .string who, .string text]] w fun r w' => r = .returned (.tuple #[.int .i64 1, .string ⟨#[]⟩, .agg #[.int .i64 0, .string ⟨#[]⟩, .slice none 0 0, .string ⟨#[]⟩]]) ∧ Below w.heap.size w w' := by
  have D0 := Lib.hid (DN.start w #[.int .u8 kd, .int .i64 num, .int .i64 ep, .string who, .string text] #[.int .i64 0, .string ⟨#[]⟩, .slice none 0 0, .string ⟨#[]⟩])
  have Hw := Lib.hid hw
  have Ht := Lib.hid ht
  have hj' : ((kd : Int)) % 8 = 4 := by omega
  clear hw ht hj
  go_enter Tryz.func10, Tryz.ntmps10
  go_wp2_with fail
  generalize (w.alloc (.cells #[.int .u8 kd, .int .i64 num, .int .i64 ep, .string who, .string text] 23)).alloc (.cells #[.int .i64 0, .string ⟨#[]⟩, .slice none 0 0, .string ⟨#[]⟩] 38) = W0 at *
  generalize hP : w.heap.size = P at *
  refine (short36_any kd num ep who text _ Hw.out Ht.out).mono ?_
  rintro r w2 ⟨rfl, hb2⟩
  have D2 := Lib.hid (D0.out.later hb2)
  have D3 := Lib.hid (D2.out.setOp (.int .u8 kd) (.int .i64 num) (.int .i64 ep) (.string (cutU who 100)) (.string (cutU text 3000)))
  clear hb2 D0
  have hfo : ∀ i, w2.frozen? ⟨P, i, none⟩ = false := fun i => frozen_of_heap D2.out.op i
  have f0 := hfo 0
  have f1 := hfo 1
  have f2 := hfo 2
  have f3 := hfo 3
  have f4 := hfo 4
  have o0 : w2.cell? ⟨P, 0, none⟩ = some (.int .u8 kd) := cell_of_heap D2.out.op 0
  have o1 : w2.cell? ⟨P, 1, none⟩ = some (.int .i64 num) := cell_of_heap D2.out.op 1
  have o2 : w2.cell? ⟨P, 2, none⟩ = some (.int .i64 ep) := cell_of_heap D2.out.op 2
  have o3 : w2.cell? ⟨P, 3, none⟩ = some (.string who) := cell_of_heap D2.out.op 3
  have o4 : w2.cell? ⟨P, 4, none⟩ = some (.string text) := cell_of_heap D2.out.op 4
  clear hfo
  go_wp2_with fail
  clear f0 f1 f2 f3 f4 o0 o1 o2 o3 o4 D2
  generalize ((((w2.setCell ⟨P, 0, none⟩ (.int .u8 kd)).setCell ⟨P, 1, none⟩ (.int .i64 num)).setCell ⟨P, 2, none⟩ (.int .i64 ep)).setCell ⟨P, 3, none⟩ (.string (cutU who 100))).setCell ⟨P, 4, none⟩ (.string (cutU text 3000)) = W3 at *
  refine (nRead_any _ _ _ _).mono ?_
  rintro r w4 ⟨rfl, hb4⟩
  have D4 := Lib.hid (D3.out.later hb4)
  clear hb4 D3
  have r0 : w4.cell? ⟨P + 1, 0, none⟩ = some (.int .i64 0) := cell_of_heap D4.out.res 0
  have r1 : w4.cell? ⟨P + 1, 1, none⟩ = some (.string ⟨#[]⟩) := cell_of_heap D4.out.res 1
  have r2 : w4.cell? ⟨P + 1, 2, none⟩ = some (.slice none 0 0) := cell_of_heap D4.out.res 2
  have r3 : w4.cell? ⟨P + 1, 3, none⟩ = some (.string ⟨#[]⟩) := cell_of_heap D4.out.res 3
  have f0 := frozen_of_heap D4.out.res 0
  have f1 := frozen_of_heap D4.out.res 1
  have f2 := frozen_of_heap D4.out.res 2
  have f3 := frozen_of_heap D4.out.res 3
  go_upto_region 16 with fail
  have D6 := Lib.hid ((D4.out.later (Below.refl _ _).drew).setRes (.int .i64 0) (.string ⟨#[]⟩) (.slice none 0 0) (.string ⟨#[]⟩))
  have D7 := Lib.hid ((D4.out.setRes (.int .i64 0) (.string ⟨#[]⟩) (.slice none 0 0) (.string ⟨#[]⟩)).later (Below.refl _ _).drew)
  go_region
  all_goals
    go_wp2
    refine bodyPost_ret (v := .tuple #[.int .i64 1, .string ⟨#[]⟩, .agg #[.int .i64 0, .string ⟨#[]⟩, .slice none 0 0, .string ⟨#[]⟩]]) (by simp [results, Tryz.results10, go_sem, r0, r1, r2, r3]) rfl ?_
    have L6 := D6.out.low
    have L7 := D7.out.low
    first | exact ⟨rfl, L6⟩ | exact ⟨rfl, L7⟩
set_option maxRecDepth 100000 in
set_option maxHeartbeats 4000000 in
theorem don36_5 (kd : Nat) (num ep : Int) (who text : ByteArray) (w : World) (hkd : kd ≤ 255) (hw : who.size ≤ 9223372036854775807) (ht : text.size ≤ 9223372036854775807) (hj : kd % 8 = 5) :
    Calls Tryz.prog 10 #[.pointer none, .agg #[.int .u8 kd, .int .i64 num, .int .i64 ep, .string who, .string text]] w fun r w' => r = .returned (.tuple #[.int .i64 1, .string ⟨#[]⟩, .agg #[.int .i64 0, .string ⟨#[]⟩, .slice none 0 0, .string ⟨#[]⟩]]) ∧ Below w.heap.size w w' := by
  have D0 := Lib.hid (DN.start w #[.int .u8 kd, .int .i64 num, .int .i64 ep, .string who, .string text] #[.int .i64 0, .string ⟨#[]⟩, .slice none 0 0, .string ⟨#[]⟩])
  have Hw := Lib.hid hw
  have Ht := Lib.hid ht
  have hj' : ((kd : Int)) % 8 = 5 := by omega
  clear hw ht hj
  go_enter Tryz.func10, Tryz.ntmps10
  go_wp2_with fail
  generalize (w.alloc (.cells #[.int .u8 kd, .int .i64 num, .int .i64 ep, .string who, .string text] 23)).alloc (.cells #[.int .i64 0, .string ⟨#[]⟩, .slice none 0 0, .string ⟨#[]⟩] 38) = W0 at *
  generalize hP : w.heap.size = P at *
  refine (short36_any kd num ep who text _ Hw.out Ht.out).mono ?_
  rintro r w2 ⟨rfl, hb2⟩
  have D2 := Lib.hid (D0.out.later hb2)
  have D3 := Lib.hid (D2.out.setOp (.int .u8 kd) (.int .i64 num) (.int .i64 ep) (.string (cutU who 100)) (.string (cutU text 3000)))
  clear hb2 D0
  have hfo : ∀ i, w2.frozen? ⟨P, i, none⟩ = false := fun i => frozen_of_heap D2.out.op i
  have f0 := hfo 0
  have f1 := hfo 1
  have f2 := hfo 2
  have f3 := hfo 3
  have f4 := hfo 4
  have o0 : w2.cell? ⟨P, 0, none⟩ = some (.int .u8 kd) := cell_of_heap D2.out.op 0
  have o1 : w2.cell? ⟨P, 1, none⟩ = some (.int .i64 num) := cell_of_heap D2.out.op 1
  have o2 : w2.cell? ⟨P, 2, none⟩ = some (.int .i64 ep) := cell_of_heap D2.out.op 2
  have o3 : w2.cell? ⟨P, 3, none⟩ = some (.string who) := cell_of_heap D2.out.op 3
  have o4 : w2.cell? ⟨P, 4, none⟩ = some (.string text) := cell_of_heap D2.out.op 4
  clear hfo
  go_wp2_with fail
  clear f0 f1 f2 f3 f4 o0 o1 o2 o3 o4 D2
  generalize ((((w2.setCell ⟨P, 0, none⟩ (.int .u8 kd)).setCell ⟨P, 1, none⟩ (.int .i64 num)).setCell ⟨P, 2, none⟩ (.int .i64 ep)).setCell ⟨P, 3, none⟩ (.string (cutU who 100))).setCell ⟨P, 4, none⟩ (.string (cutU text 3000)) = W3 at *
  refine (nRead_any _ _ _ _).mono ?_
  rintro r w4 ⟨rfl, hb4⟩
  have D4 := Lib.hid (D3.out.later hb4)
  clear hb4 D3
  have r0 : w4.cell? ⟨P + 1, 0, none⟩ = some (.int .i64 0) := cell_of_heap D4.out.res 0
  have r1 : w4.cell? ⟨P + 1, 1, none⟩ = some (.string ⟨#[]⟩) := cell_of_heap D4.out.res 1
  have r2 : w4.cell? ⟨P + 1, 2, none⟩ = some (.slice none 0 0) := cell_of_heap D4.out.res 2
  have r3 : w4.cell? ⟨P + 1, 3, none⟩ = some (.string ⟨#[]⟩) := cell_of_heap D4.out.res 3
  have f0 := frozen_of_heap D4.out.res 0
  have f1 := frozen_of_heap D4.out.res 1
  have f2 := frozen_of_heap D4.out.res 2
  have f3 := frozen_of_heap D4.out.res 3
  go_upto_region 16 with fail
  have D6 := Lib.hid ((D4.out.later (Below.refl _ _).drew).setRes (.int .i64 0) (.string ⟨#[]⟩) (.slice none 0 0) (.string ⟨#[]⟩))
  have D7 := Lib.hid ((D4.out.setRes (.int .i64 0) (.string ⟨#[]⟩) (.slice none 0 0) (.string ⟨#[]⟩)).later (Below.refl _ _).drew)
  go_region
  all_goals
    go_wp2
    refine bodyPost_ret (v := .tuple #[.int .i64 1, .string ⟨#[]⟩, .agg #[.int .i64 0, .string ⟨#[]⟩, .slice none 0 0, .string ⟨#[]⟩]]) (by simp [results, Tryz.results10, go_sem, r0, r1, r2, r3]) rfl ?_
    have L6 := D6.out.low
    have L7 := D7.out.low
    first | exact ⟨rfl, L6⟩ | exact ⟨rfl, L7⟩
set_option maxRecDepth 100000 in
set_option maxHeartbeats 4000000 in
theorem don36_6 (kd : Nat) (num ep : Int) (who text : ByteArray) (w : World) (hkd : kd ≤ 255) (hw : who.size ≤ 9223372036854775807) (ht : text.size ≤ 9223372036854775807) (hj : kd % 8 = 6) :
    Calls Tryz.prog 10 #[.pointer none, .agg #[.int .u8 kd, .int .i64 num, .int .i64 ep, .string who, .string text]] w fun r w' => r = .returned (.tuple #[.int .i64 1, .string ⟨#[]⟩, .agg #[.int .i64 0, .string ⟨#[]⟩, .slice none 0 0, .string ⟨#[]⟩]]) ∧ Below w.heap.size w w' := by
  have D0 := Lib.hid (DN.start w #[.int .u8 kd, .int .i64 num, .int .i64 ep, .string who, .string text] #[.int .i64 0, .string ⟨#[]⟩, .slice none 0 0, .string ⟨#[]⟩])
  have Hw := Lib.hid hw
  have Ht := Lib.hid ht
  have hj' : ((kd : Int)) % 8 = 6 := by omega
  clear hw ht hj
  go_enter Tryz.func10, Tryz.ntmps10
  go_wp2_with fail
  generalize (w.alloc (.cells #[.int .u8 kd, .int .i64 num, .int .i64 ep, .string who, .string text] 23)).alloc (.cells #[.int .i64 0, .string ⟨#[]⟩, .slice none 0 0, .string ⟨#[]⟩] 38) = W0 at *
  generalize hP : w.heap.size = P at *
  refine (short36_any kd num ep who text _ Hw.out Ht.out).mono ?_
  rintro r w2 ⟨rfl, hb2⟩
  have D2 := Lib.hid (D0.out.later hb2)
  have D3 := Lib.hid (D2.out.setOp (.int .u8 kd) (.int .i64 num) (.int .i64 ep) (.string (cutU who 100)) (.string (cutU text 3000)))
  clear hb2 D0
  have hfo : ∀ i, w2.frozen? ⟨P, i, none⟩ = false := fun i => frozen_of_heap D2.out.op i
  have f0 := hfo 0
  have f1 := hfo 1
  have f2 := hfo 2
  have f3 := hfo 3
  have f4 := hfo 4
  have o0 : w2.cell? ⟨P, 0, none⟩ = some (.int .u8 kd) := cell_of_heap D2.out.op 0
  have o1 : w2.cell? ⟨P, 1, none⟩ = some (.int .i64 num) := cell_of_heap D2.out.op 1
  have o2 : w2.cell? ⟨P, 2, none⟩ = some (.int .i64 ep) := cell_of_heap D2.out.op 2
  have o3 : w2.cell? ⟨P, 3, none⟩ = some (.string who) := cell_of_heap D2.out.op 3
  have o4 : w2.cell? ⟨P, 4, none⟩ = some (.string text) := cell_of_heap D2.out.op 4
  clear hfo
  go_wp2_with fail
  clear f0 f1 f2 f3 f4 o0 o1 o2 o3 o4 D2
  generalize ((((w2.setCell ⟨P, 0, none⟩ (.int .u8 kd)).setCell ⟨P, 1, none⟩ (.int .i64 num)).setCell ⟨P, 2, none⟩ (.int .i64 ep)).setCell ⟨P, 3, none⟩ (.string (cutU who 100))).setCell ⟨P, 4, none⟩ (.string (cutU text 3000)) = W3 at *
  refine (nShow_any _ _ _ _).mono ?_
  rintro r w4 ⟨rfl, hb4⟩
  have D4 := Lib.hid (D3.out.later hb4)
  clear hb4 D3
  have r0 : w4.cell? ⟨P + 1, 0, none⟩ = some (.int .i64 0) := cell_of_heap D4.out.res 0
  have r1 : w4.cell? ⟨P + 1, 1, none⟩ = some (.string ⟨#[]⟩) := cell_of_heap D4.out.res 1
  have r2 : w4.cell? ⟨P + 1, 2, none⟩ = some (.slice none 0 0) := cell_of_heap D4.out.res 2
  have r3 : w4.cell? ⟨P + 1, 3, none⟩ = some (.string ⟨#[]⟩) := cell_of_heap D4.out.res 3
  have f0 := frozen_of_heap D4.out.res 0
  have f1 := frozen_of_heap D4.out.res 1
  have f2 := frozen_of_heap D4.out.res 2
  have f3 := frozen_of_heap D4.out.res 3
  go_upto_region 16 with fail
  have D6 := Lib.hid ((D4.out.later (Below.refl _ _).drew).setRes (.int .i64 0) (.string ⟨#[]⟩) (.slice none 0 0) (.string ⟨#[]⟩))
  have D7 := Lib.hid ((D4.out.setRes (.int .i64 0) (.string ⟨#[]⟩) (.slice none 0 0) (.string ⟨#[]⟩)).later (Below.refl _ _).drew)
  go_region
  all_goals
    go_wp2
    refine bodyPost_ret (v := .tuple #[.int .i64 1, .string ⟨#[]⟩, .agg #[.int .i64 0, .string ⟨#[]⟩, .slice none 0 0, .string ⟨#[]⟩]]) (by simp [results, Tryz.results10, go_sem, r0, r1, r2, r3]) rfl ?_
    have L6 := D6.out.low
    have L7 := D7.out.low
    first | exact ⟨rfl, L6⟩ | exact ⟨rfl, L7⟩
set_option maxRecDepth 100000 in
set_option maxHeartbeats 4000000 in
theorem don36_7 (kd : Nat) (num ep : Int) (who text : ByteArray) (w : World) (hkd : kd ≤ 255) (hw : who.size ≤ 9223372036854775807) (ht : text.size ≤ 9223372036854775807) (hj : kd % 8 = 7) :
    Calls Tryz.prog 10 #[.pointer none, .agg #[.int .u8 kd, .int .i64 num, .int .i64 ep, .string who, .string text]] w fun r w' => r = .returned (.tuple #[.int .i64 1, .string ⟨#[]⟩, .agg #[.int .i64 0, .string ⟨#[]⟩, .slice none 0 0, .string ⟨#[]⟩]]) ∧ Below w.heap.size w w' := by
  have D0 := Lib.hid (DN.start w #[.int .u8 kd, .int .i64 num, .int .i64 ep, .string who, .string text] #[.int .i64 0, .string ⟨#[]⟩, .slice none 0 0, .string ⟨#[]⟩])
  have Hw := Lib.hid hw
  have Ht := Lib.hid ht
  have hj' : ((kd : Int)) % 8 = 7 := by omega
  clear hw ht hj
  go_enter Tryz.func10, Tryz.ntmps10
  go_wp2_with fail
  generalize (w.alloc (.cells #[.int .u8 kd, .int .i64 num, .int .i64 ep, .string who, .string text] 23)).alloc (.cells #[.int .i64 0, .string ⟨#[]⟩, .slice none 0 0, .string ⟨#[]⟩] 38) = W0 at *
  generalize hP : w.heap.size = P at *
  refine (short36_any kd num ep who text _ Hw.out Ht.out).mono ?_
  rintro r w2 ⟨rfl, hb2⟩
  have D2 := Lib.hid (D0.out.later hb2)
  have D3 := Lib.hid (D2.out.setOp (.int .u8 kd) (.int .i64 num) (.int .i64 ep) (.string (cutU who 100)) (.string (cutU text 3000)))
  clear hb2 D0
  have hfo : ∀ i, w2.frozen? ⟨P, i, none⟩ = false := fun i => frozen_of_heap D2.out.op i
  have f0 := hfo 0
  have f1 := hfo 1
  have f2 := hfo 2
  have f3 := hfo 3
  have f4 := hfo 4
  have o0 : w2.cell? ⟨P, 0, none⟩ = some (.int .u8 kd) := cell_of_heap D2.out.op 0
  have o1 : w2.cell? ⟨P, 1, none⟩ = some (.int .i64 num) := cell_of_heap D2.out.op 1
  have o2 : w2.cell? ⟨P, 2, none⟩ = some (.int .i64 ep) := cell_of_heap D2.out.op 2
  have o3 : w2.cell? ⟨P, 3, none⟩ = some (.string who) := cell_of_heap D2.out.op 3
  have o4 : w2.cell? ⟨P, 4, none⟩ = some (.string text) := cell_of_heap D2.out.op 4
  clear hfo
  go_wp2_with fail
  clear f0 f1 f2 f3 f4 o0 o1 o2 o3 o4 D2
  generalize ((((w2.setCell ⟨P, 0, none⟩ (.int .u8 kd)).setCell ⟨P, 1, none⟩ (.int .i64 num)).setCell ⟨P, 2, none⟩ (.int .i64 ep)).setCell ⟨P, 3, none⟩ (.string (cutU who 100))).setCell ⟨P, 4, none⟩ (.string (cutU text 3000)) = W3 at *
  refine (nGet_any _ _ _).mono ?_
  rintro r w4 ⟨rfl, hb4⟩
  have D4 := Lib.hid (D3.out.later hb4)
  clear hb4 D3
  have r0 : w4.cell? ⟨P + 1, 0, none⟩ = some (.int .i64 0) := cell_of_heap D4.out.res 0
  have r1 : w4.cell? ⟨P + 1, 1, none⟩ = some (.string ⟨#[]⟩) := cell_of_heap D4.out.res 1
  have r2 : w4.cell? ⟨P + 1, 2, none⟩ = some (.slice none 0 0) := cell_of_heap D4.out.res 2
  have r3 : w4.cell? ⟨P + 1, 3, none⟩ = some (.string ⟨#[]⟩) := cell_of_heap D4.out.res 3
  have f0 := frozen_of_heap D4.out.res 0
  have f1 := frozen_of_heap D4.out.res 1
  have f2 := frozen_of_heap D4.out.res 2
  have f3 := frozen_of_heap D4.out.res 3
  go_upto_region 16 with fail
  clear f0 f1 f2 f3 r0 r1 r2 r3
  have D5 := Lib.hid (D4.out.setRes (.int .i64 0) (.string ⟨#[]⟩) (.slice none 0 0) (.string ⟨#[]⟩))
  clear D4
  generalize (((w4.setCell ⟨P + 1, 0, none⟩ (.int .i64 0)).setCell ⟨P + 1, 1, none⟩ (.string ⟨#[]⟩)).setCell ⟨P + 1, 2, none⟩ (.slice none 0 0)).setCell ⟨P + 1, 3, none⟩ (.string ⟨#[]⟩) = W5 at *
  have D4 := D5
  have r0 : W5.cell? ⟨P + 1, 0, none⟩ = some (.int .i64 0) := cell_of_heap D4.out.res 0
  have r1 : W5.cell? ⟨P + 1, 1, none⟩ = some (.string ⟨#[]⟩) := cell_of_heap D4.out.res 1
  have r2 : W5.cell? ⟨P + 1, 2, none⟩ = some (.slice none 0 0) := cell_of_heap D4.out.res 2
  have r3 : W5.cell? ⟨P + 1, 3, none⟩ = some (.string ⟨#[]⟩) := cell_of_heap D4.out.res 3
  have f0 := frozen_of_heap D4.out.res 0
  have f1 := frozen_of_heap D4.out.res 1
  have f2 := frozen_of_heap D4.out.res 2
  have f3 := frozen_of_heap D4.out.res 3
  have D6 := Lib.hid ((D4.out.later (Below.refl _ _).drew).setRes (.int .i64 0) (.string ⟨#[]⟩) (.slice none 0 0) (.string ⟨#[]⟩))
  have D7 := Lib.hid ((D4.out.setRes (.int .i64 0) (.string ⟨#[]⟩) (.slice none 0 0) (.string ⟨#[]⟩)).later (Below.refl _ _).drew)
  go_region
  all_goals
    go_wp2
    refine bodyPost_ret (v := .tuple #[.int .i64 1, .string ⟨#[]⟩, .agg #[.int .i64 0, .string ⟨#[]⟩, .slice none 0 0, .string ⟨#[]⟩]]) (by simp [results, Tryz.results10, go_sem, r0, r1, r2, r3]) rfl ?_
    have L6 := D6.out.low
    have L7 := D7.out.low
    first | exact ⟨rfl, L6⟩ | exact ⟨rfl, L7⟩
theorem don36_any (o : OpU) (w : World) (hkd : o.kd ≤ 255) (hw : o.who.size ≤ 9223372036854775807) (ht : o.text.size ≤ 9223372036854775807) :
    Calls Tryz.prog 10 #[.pointer none, opuV o] w fun r w' => r = .returned (.tuple #[.int .i64 1, .string ⟨#[]⟩, .agg #[.int .i64 0, .string ⟨#[]⟩, .slice none 0 0, .string ⟨#[]⟩]]) ∧ Below w.heap.size w w' := by
  obtain ⟨kd, num, ep, who, text⟩ := o
  dsimp only at hkd hw ht
  have h : kd % 8 = 0 ∨ kd % 8 = 1 ∨ kd % 8 = 2 ∨ kd % 8 = 3 ∨ kd % 8 = 4 ∨ kd % 8 = 5 ∨ kd % 8 = 6 ∨ kd % 8 = 7 := by omega
  rcases h with h | h | h | h | h | h | h | h
  · exact don36_0 kd num ep who text w hkd hw ht h
  · exact don36_1 kd num ep who text w hkd hw ht h
  · exact don36_2 kd num ep who text w hkd hw ht h
  · exact don36_3 kd num ep who text w hkd hw ht h
  · exact don36_4 kd num ep who text w hkd hw ht h
  · exact don36_5 kd num ep who text w hkd hw ht h
  · exact don36_6 kd num ep who text w hkd hw ht h
  · exact don36_7 kd num ep who text w hkd hw ht h
end Go.Proofs.YtfobmfenjdiimaaGreatDoor
