/- Law 24: play. -/
import Derived.Test.YthghfhnicdoebaaGreatDoorDoE
import Derived.Test.YthghfhnicdoebaaGreatDoorBasA
import Derived.Deep.RegionLaw
namespace Go.Proofs.YthghfhnicdoebaaGreatDoor
open Go.RowKit
attribute [local go_sem ↓] Go.wp_at_zero Go.wp_at_succ

/-- A slice of law 24's operations that can be read. -/
def OpSlV (w : World) (a : Option Addr) (n : Nat) (f : Nat → OpV) : Prop :=
  0 < n → ∃ g off, a = some ⟨g, off, none⟩ ∧ ∀ j, j < n → w.cell? ⟨g, off + j * 9, none⟩ = some (.int .u8 (f j).kd) ∧ w.cell? ⟨g, off + j * 9 + 1, none⟩ = some (.int .i64 (f j).c.name.kind) ∧ w.cell? ⟨g, off + j * 9 + 2, none⟩ = some (.string (f j).c.name.owner) ∧ w.cell? ⟨g, off + j * 9 + 3, none⟩ = some (.int .i64 (f j).c.name.number) ∧
    w.cell? ⟨g, off + j * 9 + 4, none⟩ = some (.int .i64 (f j).c.name.index) ∧ w.cell? ⟨g, off + j * 9 + 5, none⟩ = some (.string (f j).c.name.text) ∧ w.cell? ⟨g, off + j * 9 + 6, none⟩ = some (.string (f j).c.value) ∧ w.cell? ⟨g, off + j * 9 + 7, none⟩ = some (.bool (f j).c.absent) ∧ w.cell? ⟨g, off + j * 9 + 8, none⟩ = some (.int .i64 (f j).n) ∧
    (f j).kd ≤ 255 ∧ (f j).c.name.owner.size ≤ 9223372036854775807 ∧ (f j).c.name.text.size ≤ 9223372036854775807 ∧ (f j).c.value.size ≤ 9223372036854775807
theorem OpSlV.later {w w' : World} {a : Option Addr} {n : Nat} {f : Nat → OpV} (h : OpSlV w a n f) (hb : Below w.heap.size w w') : OpSlV w' a n f := fun h0 => by
  obtain ⟨g, off, rfl, hc⟩ := h h0
  have hg : g < w.heap.size := World.block_lt_of_cell? w _ (hc 0 h0).1
  refine ⟨g, off, rfl, fun j hj => ?_⟩
  obtain ⟨c0, c1, c2, c3, c4, c5, c6, c7, c8, c9⟩ := hc j hj
  exact ⟨((bcell hb).1 _ _ hg).trans c0, ((bcell hb).1 _ _ hg).trans c1, ((bcell hb).1 _ _ hg).trans c2, ((bcell hb).1 _ _ hg).trans c3, ((bcell hb).1 _ _ hg).trans c4, ((bcell hb).1 _ _ hg).trans c5, ((bcell hb).1 _ _ hg).trans c6, ((bcell hb).1 _ _ hg).trans c7, ((bcell hb).1 _ _ hg).trans c8, c9⟩
/-- What the reference has read and called after the first operations. -/
def runR (l : List (NameT × ByteArray)) (fo : Nat → OpV) : Nat → List NameT × List ChangeT
  | 0 => ([], [])
  | k + 1 => stepR l (runR l fo k).1 (runR l fo k).2 (shortO (fo k))
theorem runR_inv (l : List (NameT × ByteArray)) (fo : Nat → OpV) (k : Nat) : PInv (runR l fo k).1 (runR l fo k).2 k := by
  induction k with
  | zero => exact PInv.nil 0
  | succ k ih => exact ih.step (fit_short _) (short_size _)
/-- A store into an older block of another type: as if it had stood so from the first. -/
theorem QM.low {w0 w0' w w' : World} {R b M : Nat} {cs : Array Value} {T : TypeId} {fr : Nat × Nat} {V : AV} {G : Nat → Prop} (s : QM w0 w b M V G) (hR : w.heap[R]? = some (.cells cs T fr)) (hT : Apart T) (h0 : 0 < R) (hg0 : w0.grownBy w0' (some R)) (hs : w0'.heap.size = w0.heap.size) (hg : w.grownBy w' (some R)) (he : w'.heap[R]? = w0'.heap[R]?) : QM w0' w' b M V G := by
  obtain ⟨⟨h, hv, hn, h1, h2, h4⟩, h5⟩ := s
  refine ⟨⟨h, hv.box hR hT h0 hg, hn.box hR hT hg, h1, by rw [hs]; exact h2, fun k hk => ⟨(h4 k hk).1, Nat.lt_of_lt_of_le (h4 k hk).2.1 hg.size, (h4 k hk).2.2⟩⟩,
    ⟨hg.os.trans (h5.os.trans hg0.os.symm), hg.tape.trans (h5.tape.trans hg0.tape.symm), hg.output.trans (h5.output.trans hg0.output.symm), by rw [hs]; exact Nat.le_trans h5.size hg.size, fun k hk => ?_⟩⟩
  rw [hs] at hk
  by_cases e : k = R
  · rw [e]; exact he
  · exact (hg.block k (Nat.lt_of_lt_of_le hk h5.size) (fun x => e (Option.some.inj x))).trans ((h5.block k hk).trans (hg0.block k hk (fun x => e (Option.some.inj x))).symm)
theorem set3 {w : World} {R : Nat} {p0 p1 p2 : Value} {T : TypeId} (hR : w.heap[R]? = some (.cells #[p0, p1, p2] T (0, 0))) (a0 a1 a2 : Value) :
    (((w.setCell ⟨R, 0, none⟩ a0).setCell ⟨R, 1, none⟩ a1).setCell ⟨R, 2, none⟩ a2).heap[R]? = some (.cells #[a0, a1, a2] T (0, 0)) := by
  have h1 : (w.setCell ⟨R, 0, none⟩ a0).heap[R]? = some (.cells #[a0, p1, p2] T (0, 0)) := heap_setCell_same hR 0 a0
  have h2 : ((w.setCell ⟨R, 0, none⟩ a0).setCell ⟨R, 1, none⟩ a1).heap[R]? = some (.cells #[a0, a1, p2] T (0, 0)) := heap_setCell_same h1 1 a1
  have h3 : (((w.setCell ⟨R, 0, none⟩ a0).setCell ⟨R, 1, none⟩ a1).setCell ⟨R, 2, none⟩ a2).heap[R]? = some (.cells #[a0, a1, a2] T (0, 0)) := heap_setCell_same h2 2 a2
  exact h3
theorem grown_set3 (w : World) (R : Nat) (a b c : Value) : w.grownBy (((w.setCell ⟨R, 0, none⟩ a).setCell ⟨R, 1, none⟩ b).setCell ⟨R, 2, none⟩ c) (some R) :=
  grown_trans (grown_trans (grown_setCell _ _ _ _) (grown_setCell _ _ _ _)) (grown_setCell _ _ _ _)
theorem apart_V : Apart 33 := ⟨by decide, by decide, by decide, by decide⟩
/-- A view that plays beside the reference's rows; w0 is the world ahead of the view. -/
structure PVU (w0 w : World) (b M : Nat) (V : AV) (l : List (NameT × ByteArray)) (G : Nat → Prop) (q : List NameT × List ChangeT) (vb vr vc : Value) : Prop where
  s : QM w0 w b M V (own2 G vr vc)
  hb : RowK kE w vb l
  hr : RowK kN w vr q.1
  hc : RowK kC w vc q.2
  vl : ∀ k, vb.ownBlock = some k → k < w0.heap.size
section
variable {w0 w w' : World} {b M : Nat} {V : AV} {l : List (NameT × ByteArray)} {G : Nat → Prop} {q q' : List NameT × List ChangeT} {vb vr vc : Value}
theorem PVU.later (h : PVU w0 w b M V l G q vb vr vc) (hb : Below w.heap.size w w') : PVU w0 w' b M V l G q vb vr vc :=
  ⟨h.s.later hb, h.hb.later hb, h.hr.later hb, h.hc.later hb, h.vl⟩
/-- A store into a guarded block that is none of the rows. -/
theorem PVU.box (h : PVU w0 w b M V l G q vb vr vc) {P : Nat} (hP : G P) (h1 : ∀ k, vb.ownBlock = some k → k ≠ P) (h2 : ∀ k, vr.ownBlock = some k → k ≠ P) (h3 : ∀ k, vc.ownBlock = some k → k ≠ P) (hg : w.grownBy w' (some P)) : PVU w0 w' b M V l G q vb vr vc := by
  have ne : ∀ v : Value, (∀ k, v.ownBlock = some k → k ≠ P) → ∀ k, v.ownBlock = some k → some P ≠ some k := fun v h k hk e => h k hk (Option.some.inj e).symm
  exact ⟨h.s.guarded (Kept.of_grown hg _ (fun k hk => by cases hk; exact .inl hP)) (fun k hk => .inl hk), h.hb.grown hg (ne vb h1), h.hr.grown hg (ne vr h2), h.hc.grown hg (ne vc h3), h.vl⟩
theorem PVU.drop {G' : Nat → Prop} (h : PVU w0 w b M V l G q vb vr vc) (hG : ∀ k, G' k → G k) : PVU w0 w b M V l G' q vb vr vc :=
  ⟨h.s.fresh (Below.refl _ _) (fun k hk => .inl (hk.imp (hG k) id)), h.hb, h.hr, h.hc, h.vl⟩
/-- Blocks that were made since. -/
theorem PVU.more {G' : Nat → Prop} (h : PVU w0 w b M V l G q vb vr vc) (hb : Below w.heap.size w w') (hG : ∀ k, G' k → G k ∨ (w.heap.size ≤ k ∧ k < w'.heap.size)) : PVU w0 w' b M V l G' q vb vr vc :=
  ⟨h.s.fresh hb (fun k hk => by
    rcases hk with hk | hk
    · exact (hG k hk).imp .inl id
    · exact .inl (.inr hk)), h.hb.later hb, h.hr.later hb, h.hc.later hb, h.vl⟩
theorem PVU.low {w0' : World} {R : Nat} {p0 p1 p2 : Value} (h : PVU w0 w b M V l G q vb vr vc) (hR : w.heap[R]? = some (.cells #[p0, p1, p2] 33 (0, 0))) (h0 : 0 < R) (hg0 : w0.grownBy w0' (some R)) (hs : w0'.heap.size = w0.heap.size) (hg : w.grownBy w' (some R)) (he : w'.heap[R]? = w0'.heap[R]?) (h1 : ∀ k, vb.ownBlock = some k → k ≠ R) (h2 : ∀ k, vr.ownBlock = some k → k ≠ R) (h3 : ∀ k, vc.ownBlock = some k → k ≠ R) : PVU w0' w' b M V l G q vb vr vc := by
  have ne : ∀ v : Value, (∀ k, v.ownBlock = some k → k ≠ R) → ∀ k, v.ownBlock = some k → some R ≠ some k := fun v h k hk e => h k hk (Option.some.inj e).symm
  exact ⟨h.s.low hR apart_V h0 hg0 hs hg he, h.hb.grown hg (ne vb h1), h.hr.grown hg (ne vr h2), h.hc.grown hg (ne vc h3), fun k hk => by rw [hs]; exact h.vl k hk⟩
end
/-- .. upon a base that is the reference's. -/
abbrev PVI (w0 w : World) (b : Nat) (l : List (NameT × ByteArray)) (G : Nat → Prop) (q : List NameT × List ChangeT) (vb vr vc : Value) : Prop := PVU w0 w b 12 (VOf l q.1 q.2) l G q vb vr vc
/-- Do, upon a view that plays. -/
theorem pvu_do {w0 w : World} {b M k : Nat} {V : AV} {l : List (NameT × ByteArray)} {G : Nat → Prop} {q : List NameT × List ChangeT} {ab ar ac : Option Addr} {nb nr nc kb kr kc : Nat} (h : PVU w0 w b M V l G q (.slice ab nb kb) (.slice ar nr kr) (.slice ac nc kc)) (hl : LOk l 12) (hi : PInv q.1 q.2 k) (hk : k ≤ 60) (o : OpV) (hkd : o.kd ≤ 255) (h1 : o.c.name.owner.size ≤ 9223372036854775807) (h2 : o.c.name.text.size ≤ 9223372036854775807) (h3 : o.c.value.size ≤ 9223372036854775807) (hcV : V.calls = q.2) (hgot : o.kd % 8 ≤ 2 → gotA V (shortO o).c.name = (getR l q.1 q.2 (shortO o).c.name).2) :
    Calls Tryz.prog 11 #[.pointer (some ⟨b, 0, none⟩), .agg #[.slice ab nb kb, .slice ar nr kr, .slice ac nc kc], .agg #[.int .u8 o.kd, .int .i64 o.c.name.kind, .string o.c.name.owner, .int .i64 o.c.name.number, .int .i64 o.c.name.index, .string o.c.name.text, .string o.c.value, .bool o.c.absent, .int .i64 o.n]] w fun r w' =>
      ∃ a1 n1 c1 a2 n2 c2, r = .returned (.tuple #[.agg #[.slice ab nb kb, .slice a1 n1 c1, .slice a2 n2 c2], .bool true]) ∧ PVU w0 w' b M (stepA V (shortO o)) l G (stepR l q.1 q.2 (shortO o)) (.slice ab nb kb) (.slice a1 n1 c1) (.slice a2 n2 c2) ∧ (∀ k, G k → w'.heap[k]? = w.heap[k]?) ∧ (∀ k, (Value.slice a1 n1 c1).ownBlock = some k → (Value.slice ar nr kr).ownBlock = some k ∨ w.heap.size ≤ k) ∧ ∀ k, (Value.slice a2 n2 c2).ownBlock = some k → (Value.slice ac nc kc).ownBlock = some k ∨ w.heap.size ≤ k := by
  have hd := do_any w0 w b M V (own2 G (.slice ar nr kr) (.slice ac nc kc)) h.s ab ar ac nb nr nc kb kr kc l q.1 q.2 h.hb h.hr h.hc (fun k hk => .inr (h.vl k hk)) (fun k hk => .inr (.inl hk)) (fun k hk => .inr (.inr hk)) o hkd h1 h2 h3 (by have := hl.n; omega) (by have := hi.rl; omega) (by have := hi.cl; omega) hl.s hl.fit hcV hgot
  refine hd.mono ?_
  rintro r w' ⟨vr, vc, rfl, s, hr, hc, hg, ⟨a1, n1, c1, rfl⟩, ⟨a2, n2, c2, rfl⟩, f1, f2⟩
  refine ⟨a1, n1, c1, a2, n2, c2, rfl, ⟨?_, h.hb.kept (fun k hk => (s.below.block k (h.vl k hk)).trans (h.s.below.block k (h.vl k hk)).symm), hr, hc, h.vl⟩, fun k hk => hg k (.inl hk), f1, f2⟩
  exact s.fresh (Below.refl _ _) (fun k hk => .inl (own_mono (fun k hk => .inl hk) k hk))
theorem pvi_do {w0 w : World} {b k : Nat} {l : List (NameT × ByteArray)} {G : Nat → Prop} {q : List NameT × List ChangeT} {ab ar ac : Option Addr} {nb nr nc kb kr kc : Nat} (h : PVI w0 w b l G q (.slice ab nb kb) (.slice ar nr kr) (.slice ac nc kc)) (hl : LOk l 12) (hi : PInv q.1 q.2 k) (hk : k ≤ 60) (o : OpV) (hkd : o.kd ≤ 255) (h1 : o.c.name.owner.size ≤ 9223372036854775807) (h2 : o.c.name.text.size ≤ 9223372036854775807) (h3 : o.c.value.size ≤ 9223372036854775807) :
    Calls Tryz.prog 11 #[.pointer (some ⟨b, 0, none⟩), .agg #[.slice ab nb kb, .slice ar nr kr, .slice ac nc kc], .agg #[.int .u8 o.kd, .int .i64 o.c.name.kind, .string o.c.name.owner, .int .i64 o.c.name.number, .int .i64 o.c.name.index, .string o.c.name.text, .string o.c.value, .bool o.c.absent, .int .i64 o.n]] w fun r w' =>
      ∃ a1 n1 c1 a2 n2 c2, r = .returned (.tuple #[.agg #[.slice ab nb kb, .slice a1 n1 c1, .slice a2 n2 c2], .bool true]) ∧ PVI w0 w' b l G (stepR l q.1 q.2 (shortO o)) (.slice ab nb kb) (.slice a1 n1 c1) (.slice a2 n2 c2) ∧ (∀ k, G k → w'.heap[k]? = w.heap[k]?) ∧ (∀ k, (Value.slice a1 n1 c1).ownBlock = some k → (Value.slice ar nr kr).ownBlock = some k ∨ w.heap.size ≤ k) ∧ ∀ k, (Value.slice a2 n2 c2).ownBlock = some k → (Value.slice ac nc kc).ownBlock = some k ∨ w.heap.size ≤ k := by
  refine (pvu_do h hl hi hk o hkd h1 h2 h3 rfl (fun _ => got_of hi.abs _)).mono ?_
  rintro r w' ⟨a1, n1, c1, a2, n2, c2, rfl, h6, hk, f1, f2⟩
  rw [step_of] at h6
  exact ⟨a1, n1, c1, a2, n2, c2, rfl, h6, hk, f1, f2⟩
/-- Between two operations of play. -/
structure PlI (w w0 wr : World) (b P : Nat) (l : List (NameT × ByteArray)) (q : List NameT × List ChangeT) (vb vr vc : Value) : Prop where
  s : PVI w0 wr b l (fun k => k = P) q vb vr vc
  low : Below w.heap.size w w0
  p5 : wr.heap[w.heap.size]? = some (.cells #[.slice none 0 0, .slice none 0 0, .slice none 0 0] 33 (0, 0))
  l5 : w.heap.size < w0.heap.size
  p10 : wr.heap[P]? = some (.cells #[vb, vr, vc] 33 (0, 0))
  ge : w0.heap.size ≤ P
  n1 : ∀ k, vb.ownBlock = some k → k ≠ w.heap.size
  n2 : ∀ k, vr.ownBlock = some k → k ≠ w.heap.size ∧ k ≠ P
  n3 : ∀ k, vc.ownBlock = some k → k ≠ w.heap.size ∧ k ≠ P
/-- What play leaves. -/
def Play24Post (l : List (NameT × ByteArray)) (q : List NameT × List ChangeT) (w : World) (r : Ending) (w' : World) : Prop :=
  ∃ w0 b ab nb kb ar nr kr ac nc kc, r = .returned (.tuple #[.pointer (some ⟨b, 0, none⟩), .agg #[.slice ab nb kb, .slice ar nr kr, .slice ac nc kc], .bool true]) ∧ Below w.heap.size w w0 ∧ PVI w0 w' b l (fun _ => False) q (.slice ab nb kb) (.slice ar nr kr) (.slice ac nc kc)
section
variable {w w0 wr w6 : World} {b P : Nat} {l : List (NameT × ByteArray)} {q q' : List NameT × List ChangeT} {vb vr vc vr' vc' : Value}
theorem PlI.below (h : PlI w w0 wr b P l q vb vr vc) : Below w.heap.size w wr := h.low.trans (h.s.s.below.mono h.low.size)
theorem PlI.next (h : PlI w w0 wr b P l q vb vr vc) (h6 : PVI w0 w6 b l (fun k => k = P) q' vb vr' vc') (hk : ∀ k, k = P → w6.heap[k]? = wr.heap[k]?) (f1 : ∀ k, vr'.ownBlock = some k → vr.ownBlock = some k ∨ wr.heap.size ≤ k) (f2 : ∀ k, vc'.ownBlock = some k → vc.ownBlock = some k ∨ wr.heap.size ≤ k) :
    PlI w w0 (((w6.setCell ⟨P, 0, none⟩ vb).setCell ⟨P, 1, none⟩ vr').setCell ⟨P, 2, none⟩ vc') b P l q' vb vr' vc' := by
  have hlt := lt_of_heap h.p10
  have hl5 := h.l5
  have hge := h.ge
  have ne : ∀ {v v' : Value}, (∀ k, v.ownBlock = some k → k ≠ w.heap.size ∧ k ≠ P) → (∀ k, v'.ownBlock = some k → v.ownBlock = some k ∨ wr.heap.size ≤ k) → ∀ k, v'.ownBlock = some k → k ≠ w.heap.size ∧ k ≠ P := fun h1 h2 k hk => by
    rcases h2 k hk with h | h
    · exact h1 k h
    · omega
  have m2 := ne h.n2 f1
  have m3 := ne h.n3 f2
  have hg := grown_set3 w6 P vb vr' vc'
  have h5 : w6.heap[w.heap.size]? = some (.cells #[.slice none 0 0, .slice none 0 0, .slice none 0 0] 33 (0, 0)) := ((h6.s.below.block _ hl5).trans (h.s.s.below.block _ hl5).symm).trans h.p5
  exact ⟨h6.box rfl (fun k hk => by have := h6.vl k hk; omega) (fun k hk => (m2 k hk).2) (fun k hk => (m3 k hk).2) hg, h.low, (hg.block _ (lt_of_heap h5) (fun e => by have := Option.some.inj e; omega)).trans h5, hl5, set3 ((hk P rfl).trans h.p10) _ _ _, hge, h.n1, m2, m3⟩
theorem PlI.done {ab ar ac : Option Addr} {nb nr nc kb kr kc : Nat} (h : PlI w w0 wr b P l q (.slice ab nb kb) (.slice ar nr kr) (.slice ac nc kc)) (h0 : 0 < w.heap.size) :
    Play24Post l q w (.returned (.tuple #[.pointer (some ⟨b, 0, none⟩), .agg #[.slice ab nb kb, .slice ar nr kr, .slice ac nc kc], .bool true])) (((wr.setCell ⟨w.heap.size, 0, none⟩ (.slice ab nb kb)).setCell ⟨w.heap.size, 1, none⟩ (.slice ar nr kr)).setCell ⟨w.heap.size, 2, none⟩ (.slice ac nc kc)).drew := by
  have h5 := (h.s.s.below.block _ h.l5).symm.trans h.p5
  have hg0 := grown_set3 w0 w.heap.size (.slice ab nb kb) (.slice ar nr kr) (.slice ac nc kc)
  have hg := grown_set3 wr w.heap.size (.slice ab nb kb) (.slice ar nr kr) (.slice ac nc kc)
  have he := (set3 h.p5 (.slice ab nb kb) (.slice ar nr kr) (.slice ac nc kc)).trans (set3 h5 (.slice ab nb kb) (.slice ar nr kr) (.slice ac nc kc)).symm
  have hs : (((w0.setCell ⟨w.heap.size, 0, none⟩ (.slice ab nb kb)).setCell ⟨w.heap.size, 1, none⟩ (.slice ar nr kr)).setCell ⟨w.heap.size, 2, none⟩ (.slice ac nc kc)).heap.size = w0.heap.size := by simp
  exact ⟨_, b, ab, nb, kb, ar, nr, kr, ac, nc, kc, rfl, h.low.trans (below_box hg0 (Nat.le_refl _) h.l5), ((h.s.low h.p5 h0 hg0 hs hg he h.n1 (fun k hk => (h.n2 k hk).1) (fun k hk => (h.n3 k hk).1)).drop (fun _ hk => hk.elim)).later (Below.refl _ _).drew⟩
theorem PlI.start {w2 w3 : World} {ab : Option Addr} {nb kb : Nat} (hb2 : Below w.heap.size (w.alloc (.cells #[.slice none 0 0, .slice none 0 0, .slice none 0 0] 33)) w2) (hb2' : Below (w.alloc (.cells #[.slice none 0 0, .slice none 0 0, .slice none 0 0] 33)).heap.size (w.alloc (.cells #[.slice none 0 0, .slice none 0 0, .slice none 0 0] 33)) w2) (hrow : RowK kE w2 (.slice ab nb kb) l) (hne : Value.slice ab nb kb = Value.slice none 0 0 ∨ l ≠ []) (s3 : QM w2 w3 b 12 ⟨getL cmpN l, [], []⟩ (fun _ => False)) :
    PlI w w2 (w3.alloc (.cells #[.slice ab nb kb, .slice none 0 0, .slice none 0 0] 33)) b w3.heap.size l ([], []) (.slice ab nb kb) (.slice none 0 0) (.slice none 0 0) := by
  have h5 : w2.heap[w.heap.size]? = some (.cells #[.slice none 0 0, .slice none 0 0, .slice none 0 0] 33 (0, 0)) := (hb2'.block _ (by rw [World.size_alloc]; omega)).trans (heap_alloc_new w _)
  have hl5 := lt_of_heap h5
  have h3 : Below w3.heap.size w3 (w3.alloc (.cells #[.slice ab nb kb, .slice none 0 0, .slice none 0 0] 33)) := (Below.refl _ _).alloc (Nat.le_refl _) _
  have hall := s3.below.trans (h3.mono s3.below.size)
  have s4 : QM w2 (w3.alloc (.cells #[.slice ab nb kb, .slice none 0 0, .slice none 0 0] 33)) b 12 (VOf l [] []) (own2 (fun k => k = w3.heap.size) (.slice none 0 0) (.slice none 0 0)) := s3.fresh h3 (fun k hk => by
    rcases hk with hk | hk | hk
    · subst hk; exact .inr ⟨Nat.le_refl _, by rw [World.size_alloc]; omega⟩
    · cases hk
    · cases hk)
  refine ⟨⟨s4, hrow.later hall, RowK.nil _, RowK.nil _, rowE_lt hrow hne⟩, ((Below.refl _ _).alloc (Nat.le_refl _) _).trans hb2, (hall.block _ hl5).trans h5, hl5, heap_alloc_new w3 _, s3.below.size, rowE_not hrow hne h5 (fun i u hu => ?_), (fun k hk => by cases hk), (fun k hk => by cases hk)⟩
  match i, hu with
  | 0, hu => cases hu; exact ⟨_, _, _, rfl⟩
  | 1, hu => cases hu; exact ⟨_, _, _, rfl⟩
  | 2, hu => cases hu; exact ⟨_, _, _, rfl⟩
  | i + 3, hu => simp at hu
end

set_option maxRecDepth 100000 in
set_option maxHeartbeats 3200000 in
theorem play24_any (a5 : Option Addr) (n5 c5 : Nat) (f5 : Nat → ChangeT) (a : Option Addr) (n c : Nat) (fo : Nat → OpV) (w : World) (hu : Usages w) (hn5 : n5 ≤ 9223372036854775807) (hl5 : C24Sl w a5 n5 f5) (hn : n ≤ 9223372036854775807) (hl : OpSlV w a n fo) :
    Calls Tryz.prog 13 #[.slice a5 n5 c5, .slice a n c] w (Play24Post (baseL f5 (min n5 12)) (runR (baseL f5 (min n5 12)) fo (min n 30)) w) := by
  have Hup : Hid (0 < w.heap.size) := hu.pos
  have HLk : Hid (LOk (baseL f5 (min n5 12)) 12) := (baseL_ok f5 _).more (by omega)
  have HBs : Hid (∀ W, Below w.heap.size w W → Calls Tryz.prog 8 #[.slice a5 n5 c5] W (BaseRow (baseL f5 (min n5 12)) W)) := fun W hW => (base24_any a5 n5 c5 f5 W (hu.below hW hu.pos) hn5 (hl5.later hW)).mono (fun _ _ h => base_row h)
  have HUs : Hid (∀ W, Below w.heap.size w W → Usages W) := fun W hW => hu.below hW hu.pos
  have Hl := Lib.hid hl
  clear hl hu hl5
  have HMin : Hid (∀ k, k ≤ n → k ≤ 30 → ¬ (k < n ∧ k < 30) → min n 30 = k) := fun k h1 h2 h3 => by omega
  generalize min n 30 = mm at *
  generalize baseL f5 (min n5 12) = l at *
  go_enter Tryz.func13, Tryz.ntmps13
  go_wp2_with fail
  refine (HBs.out _ ((Below.refl _ _).alloc (Nat.le_refl _) _)).mono ?_
  rintro r w2 ⟨sp, ab, nb, kb, rfl, hb2, hbn, hrow, hne⟩
  have HB2 := Lib.hid hb2
  have HBn := Lib.hid hbn
  have HRow := Lib.hid hrow
  have HNe := Lib.hid hne
  have HB2' : Hid (Below w.heap.size (w.alloc (.cells #[.slice none 0 0, .slice none 0 0, .slice none 0 0] 33)) w2) := hb2.mono (by rw [World.size_alloc]; omega)
  clear hb2 hbn hrow hne
  go_wp2_with fail
  refine (qmNew (w0 := w2) (HUs.out _ (((Below.refl _ _).alloc (Nat.le_refl _) _).trans HB2'.out)) (Below.refl _ _) HBn.out).mono ?_
  rintro r w3 ⟨rfl, s3, -⟩
  have HI0 := Lib.hid (PlI.start HB2'.out HB2.out HRow.out HNe.out s3)
  clear s3 HB2 HB2' HBn HRow HNe HBs
  go_wp2_with fail
  generalize (w3.alloc (.cells #[.slice ab nb kb, .slice none 0 0, .slice none 0 0] 33)) = w4 at *
  generalize w3.heap.size = P at *
  generalize w2.heap.size + 2 = b at *
  go_loopg [11, 12] n (fun gk okv iv wr => ∃ (k : Nat) (ar ac : Option Addr) (nr kr nc kc : Nat), k + gk = n ∧ okv = .bool true ∧ iv = .int .i64 k ∧ k ≤ 30 ∧ Hid (PlI w w2 wr b P l (runR l fo k) (.slice ab nb kb) (.slice ar nr kr) (.slice ac nc kc)))
  case atStart => exact ⟨0, none, none, 0, 0, 0, 0, by omega, rfl, rfl, by omega, HI0.out⟩
  case round =>
    clear HI0
    obtain ⟨k, ar, ac, nr, kr, nc, kc, hk, rfl, rfl, hk30, HI⟩ := hrel
    have Hk := Lib.hid hk
    have hkn : k ≤ n := by omega
    clear hk
    by_cases hlt : k < n ∧ k < 30
    · obtain ⟨hlt, hlt30⟩ := hlt
      clear HMin
      obtain ⟨g, off, rfl, hc⟩ := Hl.out.later HI.out.below (by omega)
      obtain ⟨c0, c1, c2, c3, c4, c5, c6, c7, c8, hkd, z1, z2, z3⟩ := hc k hlt
      clear hc
      have HDo : Hid (∀ W, Below wr.heap.size wr W → _) := fun W hW => pvi_do (HI.out.s.later hW) HLk.out (runR_inv l fo k) (by omega) (fo k) hkd z1 z2 z3
      have HRn : Hid (runR l fo (k + 1) = stepR l (runR l fo k).1 (runR l fo k).2 (shortO (fo k))) := rfl
      generalize shortO (fo k) = so at *
      generalize fo k = o at *
      obtain ⟨kd, ⟨⟨o1, o2, o3, o4, o5⟩, o6, o7⟩, o8⟩ := o
      dsimp only at *
      have v0 : wr.cell? ⟨P, 0, none⟩ = some (.slice ab nb kb) := cell_of_heap HI.out.p10 0
      have v1 : wr.cell? ⟨P, 1, none⟩ = some (.slice ar nr kr) := cell_of_heap HI.out.p10 1
      have v2 : wr.cell? ⟨P, 2, none⟩ = some (.slice ac nc kc) := cell_of_heap HI.out.p10 2
      clear z1 z2 z3
      go_wp2_with fail
      go_region_with (first
        | (go_at_call 11; refine (HDo.out _ (by first | exact (Below.refl _ _).drew | exact Below.refl _ _)).mono ?_; rintro r w6 ⟨a1, n1, c1, a2, n2, c2, rfl, h6, hk6, f1, f2⟩; have HI6 := Lib.hid (HI.out.next h6 hk6 f1 f2); have nf : ∀ i, w6.frozen? ⟨P, i, none⟩ = false := fun i => frozen_of_heap ((hk6 P rfl).trans HI.out.p10) i; have x0 : w6.cell? ⟨P, 0, none⟩ = some (.slice ab nb kb) := (cell_of_heap ((hk6 P rfl).trans HI.out.p10) 0); have x1 : w6.cell? ⟨P, 1, none⟩ = some (.slice ar nr kr) := (cell_of_heap ((hk6 P rfl).trans HI.out.p10) 1); have x2 : w6.cell? ⟨P, 2, none⟩ = some (.slice ac nc kc) := (cell_of_heap ((hk6 P rfl).trans HI.out.p10) 2); clear h6 hk6 f1 f2)
        | fail)
      all_goals
        rw [← HRn.out] at HI6
        clear HI HDo HRn nf x0 x1 x2 v0 v1 v2
        go_wp2
        go_roundg (n - (k + 1))
        case measure => have := Hk.out; omega
        case rel => exact ⟨k + 1, a1, a2, n1, c1, n2, c2, by have := Hk.out; omega, rfl, by go_num, by omega, HI6⟩
    · have hways : ¬ k < n ∨ (k < n ∧ ¬ k < 30) := by omega
      have HM := Lib.hid (HMin.out k hkn hk30 hlt)
      clear hlt HMin
      have b0 : wr.cell? ⟨P, 0, none⟩ = some (.slice ab nb kb) := cell_of_heap HI.out.p10 0
      have b1 : wr.cell? ⟨P, 1, none⟩ = some (.slice ar nr kr) := cell_of_heap HI.out.p10 1
      have b2 : wr.cell? ⟨P, 2, none⟩ = some (.slice ac nc kc) := cell_of_heap HI.out.p10 2
      have y0 : wr.cell? ⟨w.heap.size, 0, none⟩ = some (.slice none 0 0) := cell_of_heap HI.out.p5 0
      have y1 : wr.cell? ⟨w.heap.size, 1, none⟩ = some (.slice none 0 0) := cell_of_heap HI.out.p5 1
      have y2 : wr.cell? ⟨w.heap.size, 2, none⟩ = some (.slice none 0 0) := cell_of_heap HI.out.p5 2
      have nf : ∀ i, wr.frozen? ⟨w.heap.size, i, none⟩ = false := fun i => frozen_of_heap HI.out.p5 i
      have HF := Lib.hid (HI.out.done Hup.out)
      rw [← HM.out] at HF
      rcases hways with h5 | ⟨h5, h5'⟩
      all_goals
        go_wp2_with fail
        go_region
        go_wp2
        refine bodyPost_ret (v := .tuple #[.pointer (some ⟨b, 0, none⟩), .agg #[.slice ab nb kb, .slice ar nr kr, .slice ac nc kc], .bool true]) (by simp [results, Tryz.results13, go_sem, y0, y1, y2]) rfl ?_
        exact HF.out
end Go.Proofs.YthghfhnicdoebaaGreatDoor
