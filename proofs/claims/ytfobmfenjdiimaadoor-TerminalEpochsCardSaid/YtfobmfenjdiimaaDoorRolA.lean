/- view.Rollback. -/
import Derived.Test.YtfobmfenjdiimaaDoorViewH
import Derived.Test.YtfobmfenjdiimaaDoorQmC
import Derived.Deep.LoopGhost
import Derived.Deep.RegionHeld3
namespace Go.Proofs.YtfobmfenjdiimaaDoor
open Go.RowKit
attribute [local go_sem ↓] Go.wp_at_zero Go.wp_at_succ

theorem flat_take (cs : List ChangeT) (m : Nat) : (cs.take m).flatMap changeCells = (cs.flatMap changeCells).take (m * 7) := by
  induction cs generalizing m with
  | nil => simp
  | cons c cs ih =>
    cases m with
    | zero => simp
    | succ m =>
      rw [List.take_succ_cons, List.flatMap_cons, List.flatMap_cons, ih]
      have hl : (changeCells c).length = 7 := rfl
      rw [List.take_append, hl, show (m + 1) * 7 - 7 = m * 7 by omega, List.take_of_length_le (l := changeCells c) (by rw [hl]; omega)]
theorem row_take {w : World} {base : Nat} {av : Option Addr} {N cap m : Nat} {cs : List ChangeT} (h : w.ownsRow base 108 7 (.slice av N cap) cs.length (cs.flatMap changeCells)) (hN : cs.length = N) (hm : m ≤ N) :
    w.ownsRow base 108 7 (.slice av m cap) (cs.take m).length ((cs.take m).flatMap changeCells) := by
  have hl : (cs.take m).length = m := by rw [List.length_take]; omega
  obtain ⟨h1, h2⟩ := h
  refine ⟨?_, ?_⟩
  · rw [flat_take, List.length_take, h1, hl]; omega
  rcases h2 with ⟨hv, h0⟩ | ⟨g, cap', cur, hv, hb, hh, hc, hx, hs, ht⟩
  · obtain rfl : m = 0 := by omega
    cases hv
    exact .inl ⟨rfl, hl⟩
  · cases hv
    refine .inr ⟨g, cap, cur, by rw [hl], hb, hh, by omega, hx, hs, ?_⟩
    rw [flat_take, ← ht, List.take_take, hl]
    congr 1
    omega
theorem own_cap (av : Option Addr) (m c m' c' : Nat) : (Value.slice av m c).ownBlock = (Value.slice av m' c').ownBlock := by cases av <;> rfl
theorem rol_post {b rm lm lm' : Nat} {av : Option Addr} {N cap m : Nat} {sp bs : Nat} {V : AV} {w w' : World} (hv : ViewAt w ⟨b, rm, lm, .slice av N cap, sp, bs⟩ V) (hN : V.calls.length = N) (hm : m ≤ N)
    (hb : w'.heap[b]? = some (.cells #[.pointer (some ⟨sp, 0, none⟩), .map (some rm), .slice av m cap, .map (some lm')] 94 (0, 0))) (hk : Kept (fun k => k = b) w w') (hl : w.heap.size ≤ lm') (hmap : MapIs idxV w' lm' (lastOf (V.calls.take m))) :
    VQ ⟨b, rm, lm, .slice av N cap, sp, bs⟩ (fun _ => False) w ⟨V.base, V.reads, V.calls.take m⟩ w' ⟨b, rm, lm', .slice av m cap, sp, bs⟩ := by
  have hbs : bs ≤ b := hv.lo b (.inl rfl)
  have hbel : Below bs w w' := hk.below hv.top (fun k e => by subst e; exact hbs)
  have hrm := hv.reads.lt
  dsimp only at hrm
  have hbrm : rm ≠ b := fun e => by obtain ⟨es, cl, h1, _⟩ := hv.reads; dsimp only at h1; rw [e, hv.heap] at h1; cases h1
  have hcap : (V.calls.take m).length = m := by rw [List.length_take]; omega
  refine ⟨⟨hb, hv.reads.kept (hk.block rm hrm hbrm), hmap, ?_, by show rm ≠ lm'; omega, hv.usages.below hbel hv.pos, hv.base.later hbel, ?_, hv.pos, Nat.le_trans hv.top hk.size, ?_, fun c hc => hv.ok c (List.mem_of_mem_take hc), hv.rdk⟩, rfl, rfl, rfl, hk.mono (fun k _ e => .inl (.inl e)), ?_⟩
  · have hrow := row_take (by have := hv.calls; dsimp only at this; exact this) hN hm
    refine row_kept hrow (fun g hg => hk.block g ?_ ?_)
    · obtain ⟨cur, hc⟩ := row_lt hrow hg
      exact lt_of_heap hc
    · rintro rfl
      obtain ⟨cur, hc⟩ := row_lt hrow hg
      have := hv.heap
      dsimp only at this
      rw [this] at hc
      cases hc
  · intro k hf
    rcases hf with rfl | rfl | rfl | hf
    · exact hbs
    · exact hv.lo _ (.inr (.inl rfl))
    · exact Nat.le_trans hv.top hl
    · exact hv.lo k (.inr (.inr (.inr ((own_cap _ _ _ _ _).trans hf))))
  · show (V.calls.take m).length ≤ _
    have := hv.len
    omega
  · intro k hf
    rcases hf with rfl | rfl | rfl | hf
    · exact .inl (.inl rfl)
    · exact .inl (.inr (.inl rfl))
    · exact .inr hl
    · exact .inl (.inr (.inr (.inr ((own_cap _ _ _ _ _).trans hf))))
/-- Between two rounds of Rollback's loop. -/
structure RolI (w wr : World) (b rm sp : Nat) (av : Option Addr) (m cap lm' : Nat) (cs : List ChangeT) (k : Nat) : Prop where
  heap : wr.heap[b]? = some (.cells #[.pointer (some ⟨sp, 0, none⟩), .map (some rm), .slice av m cap, .map (some lm')] 94 (0, 0))
  map : MapIs idxV wr lm' (lastOf (cs.take k))
  kept : Kept (fun j => j = b) w wr
  lo : w.heap.size ≤ lm'
theorem rol_start {b rm lm N cap sp bs m : Nat} {av av' : Option Addr} {V : AV} {w : World} (hv : ViewAt w ⟨b, rm, lm, .slice av N cap, sp, bs⟩ V) (cap' : Nat) :
    RolI w (((w.setCell ⟨b, 2, none⟩ (.slice av' m cap')).setCell ⟨b, 3, none⟩ (.map (some w.heap.size))).alloc (.map #[] 0)) b rm sp av' m cap' w.heap.size V.calls 0 := by
  have hb := hv.heap
  dsimp only at hb
  have hlt := lt_of_heap hb
  have h3 := heap_setCell_same (heap_setCell_same hb 2 (.slice av' m cap')) 3 (.map (some w.heap.size))
  have hsz : ((w.setCell ⟨b, 2, none⟩ (.slice av' m cap')).setCell ⟨b, 3, none⟩ (.map (some w.heap.size))).heap.size = w.heap.size := by rw [size_setCell, size_setCell]
  refine ⟨(Below.heap_alloc _ _ b (by omega)).trans h3, ⟨#[], 0, ?_, rfl, by simp [Stamps]⟩, ⟨rfl, rfl, rfl, by rw [World.size_alloc, hsz]; omega, fun k hk hn => ?_⟩, Nat.le_refl _⟩
  · have := World.alloc_heap_new ((w.setCell ⟨b, 2, none⟩ (.slice av' m cap')).setCell ⟨b, 3, none⟩ (.map (some w.heap.size))) (.map #[] 0)
    rwa [hsz] at this
  · rw [Below.heap_alloc _ _ _ (by omega), Below.heap_setCell _ _ _ _ hn]
    exact Below.heap_setCell _ _ _ _ hn
theorem rol_next {w wr w2 : World} {b rm sp m cap lm' k : Nat} {av : Option Addr} {cs : List ChangeT} {o : Obj} {c : ChangeT} (h : RolI w wr b rm sp av m cap lm' cs k) (hlt : b < w.heap.size) (hc : cs[k]? = some c) (hm : MapIs idxV w2 lm' (aSet (lastOf (cs.take k)) c.name k)) (hg : (wr.alloc o).drew.grownBy w2 (some lm')) : RolI w w2 b rm sp av m cap lm' cs (k + 1) := by
  have hk : k < cs.length := (List.getElem?_eq_some_iff.1 hc).1
  have hlo := h.lo
  have hsz := h.kept.size
  refine ⟨(hg.block b (by simp; omega) (fun e => by have := Option.some.inj e; omega)).trans ((Below.heap_alloc wr.drew _ b (by show b < wr.heap.size; omega)).trans h.heap), ?_, ⟨hg.os.trans h.kept.os, hg.tape.trans h.kept.tape, hg.output.trans h.kept.output, Nat.le_trans (Nat.le_trans hsz (by simp)) hg.size, fun j hj hn => ?_⟩, hlo⟩
  · have e : cs.take (k + 1) = cs.take k ++ [c] := by
      rw [List.take_add_one, hc]; rfl
    rw [e, lastOf_snoc, List.length_take, Nat.min_eq_left (by omega)]
    exact hm
  · exact (hg.block j (by simp; omega) (fun e => by have := Option.some.inj e; omega)).trans ((Below.heap_alloc wr.drew _ j (by show j < wr.heap.size; omega)).trans (h.kept.block j hj hn))
theorem rol_cells {w wr : World} {b rm lm N cap sp bs m k lm' : Nat} {g : Nat} {V : AV} (hv : ViewAt w ⟨b, rm, lm, .slice (some ⟨g, 0, none⟩) N cap, sp, bs⟩ V) (h : RolI w wr b rm sp (some ⟨g, 0, none⟩) m cap lm' V.calls k) {c : ChangeT} (hc : V.calls[k]? = some c) :
    ∀ j u, (changeCells c)[j]? = some u → wr.cell? ⟨g, k * 7 + j, none⟩ = some u := by
  intro j u hu
  have hj : j < 7 := (List.getElem?_eq_some_iff.1 hu).1
  have hk : k < V.calls.length := (List.getElem?_eq_some_iff.1 hc).1
  rcases hv.calls.2 with ⟨h1, _⟩ | ⟨g', cap', cur, h1, h2, h3, h4, h5, h6, h7⟩
  · cases h1
  cases h1
  have hne : g ≠ b := fun e => by
    subst e
    have := hv.heap
    dsimp only at this
    rw [this] at h3
    cases h3
  have hb := (h.kept.block g (lt_of_heap h3) hne).trans h3
  rw [cell_of_heap hb, ← Array.getElem?_toList]
  have hf := flat_get V.calls k j c hc hj hu
  rw [← h7, List.getElem?_take_of_lt (by omega)] at hf
  exact hf

section
variable {w0 w : World} {b M : Nat} {V : AV} {G : Nat → Prop} (s : QM w0 w b M V G)
include s
theorem qmMark : Calls Tryd.prog 46 #[.pointer (some ⟨b, 0, none⟩)] w fun r w' => r = .returned (.int .i64 V.calls.length) ∧ w = w' := by
  obtain ⟨⟨h, hv, hb, rfl, h2, h4⟩, h5⟩ := s
  exact vMark_any h V w hv
end
end Go.Proofs.YtfobmfenjdiimaaDoor
