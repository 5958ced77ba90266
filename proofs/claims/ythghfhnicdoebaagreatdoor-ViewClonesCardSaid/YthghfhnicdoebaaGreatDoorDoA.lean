/- Law 24: the midst of Do. -/
import Derived.Test.YthghfhnicdoebaaGreatDoorVplA
import Derived.Test.YthghfhnicdoebaaGreatDoorShoA
namespace Go.Proofs.YthghfhnicdoebaaGreatDoor
open Go.RowKit

/-- The blocks of a call of Do: the reference's view, the operation, the result, the change, the name. -/
def DE (w : World) (X Y : Nat) (k : Nat) : Prop := k = w.heap.size ∨ k = w.heap.size + 1 ∨ k = w.heap.size + 1 + 1 ∨ k = X ∨ k = Y
def own2 (G : Nat → Prop) (vr vc : Value) (k : Nat) : Prop := G k ∨ vr.ownBlock = some k ∨ vc.ownBlock = some k
structure DX (w0 w : World) (b M : Nat) (V : AV) (G : Nat → Prop) (vb vr vc : Value) (oc cc nn : Array Value) (X Y : Nat) (W : World) : Prop where
  q : QI w0 w b M V G (DE w X Y) W
  bv : W.heap[w.heap.size]? = some (.cells #[vb, vr, vc] 33 (0, 0))
  op : W.heap[w.heap.size + 1]? = some (.cells oc 42 (0, 0))
  br : W.heap[w.heap.size + 1 + 1]? = some (.cells #[.slice none 0 0, .slice none 0 0, .slice none 0 0] 33 (0, 0))
  bc : W.heap[X]? = some (.cells cc 40 (0, 0))
  bn : W.heap[Y]? = some (.cells nn 62 (0, 0))
  lx : w.heap.size + 1 + 1 < X
  ly : X < Y
section
variable {w0 w W W' : World} {b M : Nat} {V V' : AV} {G : Nat → Prop} {vb vr vc : Value} {oc cc nn : Array Value} {X Y : Nat}
theorem dx_start {w2 w4 : World} (s : QM w0 w b M V G) (h2 : Below (((w.alloc (.cells #[vb, vr, vc] 33)).alloc (.cells oc 42)).alloc (.cells #[.slice none 0 0, .slice none 0 0, .slice none 0 0] 33)).heap.size (((w.alloc (.cells #[vb, vr, vc] 33)).alloc (.cells oc 42)).alloc (.cells #[.slice none 0 0, .slice none 0 0, .slice none 0 0] 33)) w2) (h4 : Below (w2.alloc (.cells cc 40)).heap.size (w2.alloc (.cells cc 40)) w4) :
    DX w0 w b M V G vb vr vc oc cc nn w2.heap.size w4.heap.size (w4.alloc (.cells nn 62)) := by
  obtain ⟨g1, g2, g3, g4⟩ := GX.start w vb vr vc oc 42
  generalize (((w.alloc (.cells #[vb, vr, vc] 33)).alloc (.cells oc 42)).alloc (.cells #[.slice none 0 0, .slice none 0 0, .slice none 0 0] 33)) = w1 at *
  have l4 := lt_of_heap g4
  have l2 := h2.size
  have l3 : w2.heap.size + 1 ≤ w4.heap.size := by have := h4.size; rwa [World.size_alloc] at this
  have h3 : Below w2.heap.size w2 w4 := ((Below.refl _ _).alloc (Nat.le_refl _) _).trans (h4.mono (by rw [World.size_alloc]; omega))
  have h5 : Below w4.heap.size w4 (w4.alloc (.cells nn 62)) := (Below.refl _ _).alloc (Nat.le_refl _) _
  have h25 : Below w2.heap.size w2 (w4.alloc (.cells nn 62)) := h3.trans (h5.mono h3.size)
  have h15 : Below w1.heap.size w1 (w4.alloc (.cells nn 62)) := h2.trans (h25.mono h2.size)
  have hall : Below w.heap.size w (w4.alloc (.cells nn 62)) := g1.trans (h15.mono g1.size)
  have hx : (w4.alloc (.cells nn 62)).heap[w2.heap.size]? = some (.cells cc 40 (0, 0)) := by
    refine (h5.block _ (by omega)).trans ?_
    exact (h4.block _ (by rw [World.size_alloc]; omega)).trans (World.alloc_heap_new w2 _)
  refine ⟨s.qi hall ?_, (h15.block _ (lt_of_heap g2)).trans g2, (h15.block _ (lt_of_heap g3)).trans g3, (h15.block _ (lt_of_heap g4)).trans g4, hx, World.alloc_heap_new w4 _, by omega, by omega⟩
  intro k hk
  rw [World.size_alloc]
  rcases hk with rfl | rfl | rfl | rfl | rfl <;> omega
theorem DX.later (d : DX w0 w b M V G vb vr vc oc cc nn X Y W) (hb : Below W.heap.size W W') : DX w0 w b M V G vb vr vc oc cc nn X Y W' :=
  ⟨d.q.later hb, (hb.block _ (lt_of_heap d.bv)).trans d.bv, (hb.block _ (lt_of_heap d.op)).trans d.op, (hb.block _ (lt_of_heap d.br)).trans d.br, (hb.block _ (lt_of_heap d.bc)).trans d.bc, (hb.block _ (lt_of_heap d.bn)).trans d.bn, d.lx, d.ly⟩
theorem DX.step (d : DX w0 w b M V G vb vr vc oc cc nn X Y W) (s : QM w0 W' b M V' (fun k => G k ∨ DE w X Y k)) (hk : ∀ k, (G k ∨ DE w X Y k) → W'.heap[k]? = W.heap[k]?) : DX w0 w b M V' G vb vr vc oc cc nn X Y W' :=
  ⟨d.q.step s hk, (hk _ (.inr (.inl rfl))).trans d.bv, (hk _ (.inr (.inr (.inl rfl)))).trans d.op, (hk _ (.inr (.inr (.inr (.inl rfl))))).trans d.br, (hk _ (.inr (.inr (.inr (.inr (.inl rfl)))))).trans d.bc, (hk _ (.inr (.inr (.inr (.inr (.inr rfl)))))).trans d.bn, d.lx, d.ly⟩
theorem DX.setC (d : DX w0 w b M V G vb vr vc oc cc nn X Y W) (i : Nat) (v : Value) {cc' : Array Value} (e : cc.setIfInBounds i v = cc') : DX w0 w b M V G vb vr vc oc cc' nn X Y (W.setCell ⟨X, i, none⟩ v) := by
  have h1 := d.lx
  have h2 := d.ly
  refine ⟨d.q.set X (.inr (.inr (.inr (.inl rfl)))) i v, (Below.heap_setCell _ _ _ _ (by show w.heap.size ≠ X; omega)).trans d.bv, (Below.heap_setCell _ _ _ _ (by show w.heap.size + 1 ≠ X; omega)).trans d.op, (Below.heap_setCell _ _ _ _ (by show w.heap.size + 1 + 1 ≠ X; omega)).trans d.br, ?_, (Below.heap_setCell _ _ _ _ (by show Y ≠ X; omega)).trans d.bn, h1, h2⟩
  rw [heap_setCell_same d.bc i v, e]
theorem DX.lt (d : DX w0 w b M V G vb vr vc oc cc nn X Y W) : w.heap.size < W.heap.size ∧ w.heap.size + 1 < W.heap.size ∧ w.heap.size + 1 + 1 < W.heap.size ∧ X < W.heap.size ∧ Y < W.heap.size := ⟨lt_of_heap d.bv, lt_of_heap d.op, lt_of_heap d.br, lt_of_heap d.bc, lt_of_heap d.bn⟩
/-- A row that the call was given. -/
theorem DX.row {α : Type} {K : KindK α} {v : Value} {xs : List α} (d : DX w0 w b M V G vb vr vc oc cc nn X Y W) (h : RowK K w v xs) (hG : ∀ k, v.ownBlock = some k → G k) : RowK K W v xs := h.kept (fun k hk => d.q.g k (hG k hk))
theorem DX.rowB {α : Type} {K : KindK α} {v : Value} {xs : List α} (d : DX w0 w b M V G vb vr vc oc cc nn X Y W) (h : RowK K w v xs) (hG : ∀ k, v.ownBlock = some k → G k ∨ k < w0.heap.size) (hb : Below w0.heap.size w0 w) : RowK K W v xs :=
  h.kept (fun k hk => (hG k hk).elim (d.q.g k) (fun hl => (d.q.s.below.block k hl).trans (hb.block k hl).symm))
theorem own_mono {G G' : Nat → Prop} {vr vc : Value} (h : ∀ k, G k → G' k) (k : Nat) (hk : own2 G vr vc k) : own2 G' vr vc k := hk.imp (h k) id
/-- What Do leaves. -/
def DoPost (w0 w : World) (b M : Nat) (V' : AV) (G : Nat → Prop) (vb vr0 vc0 : Value) (q : List NameT × List ChangeT) (r : Ending) (w' : World) : Prop :=
  ∃ vr vc, r = .returned (.tuple #[.agg #[vb, vr, vc], .bool true]) ∧ QM w0 w' b M V' (own2 G vr vc) ∧ RowK kN w' vr q.1 ∧ RowK kC w' vc q.2 ∧ (∀ k, G k → w'.heap[k]? = w.heap[k]?) ∧ (∃ a n c, vr = .slice a n c) ∧ (∃ a n c, vc = .slice a n c) ∧ (∀ k, vr.ownBlock = some k → vr0.ownBlock = some k ∨ w.heap.size ≤ k) ∧ ∀ k, vc.ownBlock = some k → vc0.ownBlock = some k ∨ w.heap.size ≤ k
theorem dx_end {W2 : World} {vr' vc' : Value} {rs : List NameT} {cs : List ChangeT} {q : List NameT × List ChangeT} (d : DX w0 w b M V G vb vr vc oc cc nn X Y W) (hrG : ∀ k, vr.ownBlock = some k → G k) (hcG : ∀ k, vc.ownBlock = some k → G k) (hb : Below W.heap.size W W2) (fr : Fresh W W2 vr vr') (fc : Fresh W W2 vc vc') (hr : RowK kN W2 vr' rs) (hc : RowK kC W2 vc' cs) (hq : q = (rs, cs)) (x0 x1 x2 : Value) :
    DoPost w0 w b M V G vb vr vc q (.returned (.tuple #[.agg #[vb, vr', vc'], .bool true])) (((W2.setCell ⟨w.heap.size + 1 + 1, 0, none⟩ x0).setCell ⟨w.heap.size + 1 + 1, 1, none⟩ x1).setCell ⟨w.heap.size + 1 + 1, 2, none⟩ x2) := by
  have hg := grown_trans (grown_trans (grown_setCell W2 (w.heap.size + 1 + 1) 0 x0) (grown_setCell _ (w.heap.size + 1 + 1) 1 x1)) (grown_setCell _ (w.heap.size + 1 + 1) 2 x2)
  generalize ((W2.setCell ⟨w.heap.size + 1 + 1, 0, none⟩ x0).setCell ⟨w.heap.size + 1 + 1, 1, none⟩ x1).setCell ⟨w.heap.size + 1 + 1, 2, none⟩ x2 = W3 at *
  have hl := d.lt
  have hR : DE w X Y (w.heap.size + 1 + 1) := .inr (.inr (.inl rfl))
  have hne : ∀ k, own2 G vr' vc' k → k < W2.heap.size ∧ k ≠ w.heap.size + 1 + 1 := by
    have aux : ∀ (v v' : Value), (∀ k, v.ownBlock = some k → G k) → Fresh W W2 v v' → ∀ k, v'.ownBlock = some k → k < W2.heap.size ∧ k ≠ w.heap.size + 1 + 1 := fun v v' h1 h2 k hk => by
      rcases h2 k hk with h | h
      · exact ⟨Nat.lt_of_lt_of_le (d.q.s.glt (.inl (h1 k h))) hb.size, fun e => d.q.ap k (h1 k h) (e ▸ hR)⟩
      · exact ⟨h.2, by omega⟩
    intro k hk
    rcases hk with hk | hk | hk
    · exact ⟨Nat.lt_of_lt_of_le (d.q.s.glt (.inl hk)) hb.size, fun e => d.q.ap k hk (e ▸ hR)⟩
    · exact aux vr vr' hrG fr k hk
    · exact aux vc vc' hcG fc k hk
  have hsame : ∀ k, own2 G vr' vc' k → W3.heap[k]? = W2.heap[k]? := fun k hk => hg.block k (hne k hk).1 (fun e => (hne k hk).2 (Option.some.inj e))
  have q2 : QI w0 w b M V G (fun k => DE w X Y k ∨ (W.heap.size ≤ k ∧ k < W2.heap.size)) W2 := d.q.more hb (fun k hk => hk)
  have q3 : QI w0 w b M V G (fun k => DE w X Y k ∨ (W.heap.size ≤ k ∧ k < W2.heap.size)) W3 := q2.grown (w.heap.size + 1 + 1) (.inl hR) hg
  subst hq
  refine ⟨vr', vc', rfl, q3.s.fresh (Below.refl _ _) (fun k hk => .inl ?_), hr.kept (fun k hk => hsame k (.inr (.inl hk))), hc.kept (fun k hk => hsame k (.inr (.inr hk))), q3.g, ?_, ?_, fun k hk => (fr k hk).imp id (fun h => by omega), fun k hk => (fc k hk).imp id (fun h => by omega)⟩
  · rcases hk with hk | hk | hk
    · exact .inl hk
    · rcases fr k hk with h | h
      · exact .inl (hrG k h)
      · exact .inr (.inr h)
    · rcases fc k hk with h | h
      · exact .inl (hcG k h)
      · exact .inr (.inr h)
  · obtain ⟨a, c, e, -⟩ := hr.form
    exact ⟨a, _, c, e⟩
  · obtain ⟨a, c, e, -⟩ := hc.form
    exact ⟨a, _, c, e⟩
theorem Fresh.refl (W W' : World) (v : Value) : Fresh W W' v v := fun _ h => .inl h
theorem Fresh.more {W1 W2 W3 : World} {v v' : Value} (h : Fresh W1 W2 v v') (hs : W2.heap.size ≤ W3.heap.size) : Fresh W1 W3 v v' := fun k hk => (h k hk).imp id (fun h => ⟨h.1, Nat.lt_of_lt_of_le h.2 hs⟩)
end
end Go.Proofs.YthghfhnicdoebaaGreatDoor
