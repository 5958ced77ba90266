/- TerminalLines: the walk. -/
import Derived.Test.YtmknhokjpmjkkaaDoorRowA
import Derived.Test.YtmknhokjpmjkkaaDoorLawS
import Derived.Deep.DeepCutAuto
namespace Go.Proofs.YtmknhokjpmjkkaaDoor
open Go.RowKit
attribute [local go_sem ↓] Go.wp_at_zero Go.wp_at_succ

/-- A slice of bools that can be read. -/
def OSl (w : World) (a : Option Addr) (n : Nat) (bs : List Bool) : Prop :=
  bs.length = n ∧ (0 < n → ∃ g off, a = some ⟨g, off, none⟩ ∧ ∀ j, j < n → w.cell? ⟨g, off + j, none⟩ = some (.bool (bs.getD j false)))
theorem OSl.later {w w' : World} {a : Option Addr} {n : Nat} {ls : List Bool} (h : OSl w a n ls) (hb : Below w.heap.size w w') : OSl w' a n ls := by
  refine ⟨h.1, fun h0 => ?_⟩
  obtain ⟨g, off, ha, hc⟩ := h.2 h0
  refine ⟨g, off, ha, fun j hj => ?_⟩
  exact ((bcell hb).1 g _ (World.block_lt_of_cell? w ⟨g, off, none⟩ (hc 0 h0))).trans (hc j hj)

theorem SRow.block {w w' : World} {v : Value} {ls : List ByteArray} (h : SRow w v ls) (hb : ∀ g, v.ownBlock = some g → w'.heap[g]? = w.heap[g]?) : SRow w' v ls := by
  refine ⟨h.1, ?_⟩
  rcases h.2 with h2 | ⟨g, cap, cur, hv, h3, h4, h5⟩
  · exact .inl h2
  · exact .inr ⟨g, cap, cur, hv, h3, (hb g (by rw [hv]; rfl)).trans h4, h5⟩
theorem SRow.form {w : World} {v : Value} {ls : List ByteArray} (h : SRow w v ls) : ∃ A n c, v = .slice A n c := by
  rcases h.2 with ⟨hv, _⟩ | ⟨g, cap, cur, hv, _⟩
  · exact ⟨_, _, _, hv⟩
  · exact ⟨_, _, _, hv⟩
theorem SRow.lt {w : World} {v : Value} {ls : List ByteArray} (h : SRow w v ls) {g : Nat} (hg : v.ownBlock = some g) : g < w.heap.size := by
  obtain ⟨cur, hc⟩ := row_lt h hg
  exact lt_of_heap hc

/-- The view's terminal, and two rows of strings beside it. -/
structure LMem (w0 w : World) (b : Nat) (n e : Int) (N : Nat) (tv gv : Value) (T Gt : List ByteArray) (t : TermT) : Prop where
  sh : SH w0 w b n e N t (fun k => tv.ownBlock = some k ∨ gv.ownBlock = some k)
  rt : SRow w tv T
  rg : SRow w gv Gt
  ne : ∀ g, tv.ownBlock = some g → gv.ownBlock ≠ some g
theorem LMem.op {w0 w w' : World} {b : Nat} {n e : Int} {N N' : Nat} {tv gv : Value} {T Gt : List ByteArray} {t t' : TermT} (h : LMem w0 w b n e N tv gv T Gt t) (hs : SH w0 w' b n e N' t' (fun k => tv.ownBlock = some k ∨ gv.ownBlock = some k)) (hk : ∀ k, (tv.ownBlock = some k ∨ gv.ownBlock = some k) → w'.heap[k]? = w.heap[k]?) : LMem w0 w' b n e N' tv gv T Gt t' :=
  ⟨hs, h.rt.block (fun g hg => hk g (.inl hg)), h.rg.block (fun g hg => hk g (.inr hg)), h.ne⟩
theorem LMem.swap {w0 w : World} {b : Nat} {n e : Int} {N : Nat} {tv gv : Value} {T Gt : List ByteArray} {t : TermT} (h : LMem w0 w b n e N tv gv T Gt t) : LMem w0 w b n e N gv tv Gt T t :=
  ⟨by have := h.sh; have hk : Below w.heap.size w w := Below.refl _ _; exact this.fresh hk (fun k hk => .inl (Or.symm hk)), h.rg, h.rt, fun g h1 h2 => h.ne g h2 h1⟩
theorem LMem.addT {w0 w w2 : World} {b : Nat} {n e : Int} {N : Nat} {tv gv : Value} {T T' Gt : List ByteArray} {t : TermT} {o : Obj} {g m cap : Nat} (h : LMem w0 w b n e N tv gv T Gt t) (hrow : SRow w2 (.slice (some ⟨g, 0, none⟩) m cap) T') (hg : (w.alloc o).grownBy w2 tv.ownBlock) (hat : tv.ownBlock = some g ∨ g = (w.alloc o).heap.size) :
    LMem w0 w2 b n e N (.slice (some ⟨g, 0, none⟩) m cap) gv T' Gt t := by
  have hsz : (w.alloc o).heap.size = w.heap.size + 1 := by simp
  have hkp : Kept (fun k => tv.ownBlock = some k ∨ gv.ownBlock = some k) w w2 := (Kept.of_below ((Below.refl _ _).alloc (Nat.le_refl _) _) _).trans (Kept.of_grown hg _ (fun k hk => .inl hk)) (fun _ _ h => h)
  have hgv : ∀ k, gv.ownBlock = some k → w2.heap[k]? = w.heap[k]? := fun k hk => by
    have hlt := h.rg.lt hk
    refine (hg.block k (by rw [hsz]; omega) (fun e => h.ne k e.symm hk)).trans (Below.heap_alloc w o k hlt)
  refine ⟨h.sh.guarded hkp (fun k hk => ?_), hrow, h.rg.block hgv, fun k hk hk2 => ?_⟩
  · rcases hk with hk | hk
    · have hlt := hrow.lt hk
      have : g = k := by simpa [Value.ownBlock] using hk
      subst this
      rcases hat with h1 | h1
      · exact .inl (.inl h1)
      · exact .inr ⟨by rw [h1, hsz]; omega, hlt⟩
    · exact .inl (.inr hk)
  · have : g = k := by simpa [Value.ownBlock] using hk
    subst this
    rcases hat with h1 | h1
    · exact h.ne _ h1 hk2
    · have := h.rg.lt hk2
      rw [hsz] at h1
      omega

/-- The relation of the first loop. -/
def LInv (w1 wr : World) (k : Nat) (tv gv : Value) : Prop :=
  ∃ T Gt t, LMem w1 wr (w1.heap.size + 3) 1 0 (2 * k + 1) tv gv T Gt t ∧ T = Gt ++ t.typed ∧ t.session = ⟨#[51]⟩ ∧ T.length ≤ k ∧ Gt.length ≤ k
def LMid (w1 wr : World) (k : Nat) (tv gv : Value) : Prop :=
  ∃ T Gt t, LMem w1 wr (w1.heap.size + 3) 1 0 (2 * k + 2) tv gv T Gt t ∧ T = Gt ++ t.typed ∧ t.session = ⟨#[51]⟩ ∧ T.length ≤ k + 1 ∧ Gt.length ≤ k

theorem l_range : inRange 1 0 = true := by decide +kernel
theorem l_begin : (opBegin ⟨#[51]⟩ (newT 0)).2 = 0 ∧ stepT (opBegin ⟨#[51]⟩) (newT 0) = ⟨0, ⟨#[51]⟩, [], ⟨#[]⟩⟩ := by decide +kernel
theorem l_within : withinB ⟨#[51, 46, 50]⟩ ⟨#[51]⟩ = true := by decide +kernel
theorem sz33 (b c d : UInt8) : (⟨#[b, c, d]⟩ : ByteArray).size ≤ 35184372088832 := (sz3 b c d).1

theorem add_bad {l : ByteArray} {t : TermT} {q : Nat} (h : (opAdd l t).2 = q) (hq : q ≠ 0) : stepT (opAdd l) t = t := by simp [stepT, h, hq]
theorem add_good {l : ByteArray} {t : TermT} (h : (opAdd l t).2 = 0) : (stepT (opAdd l) t).typed = t.typed ++ [l] ∧ (stepT (opAdd l) t).session = t.session := by
  unfold stepT
  rw [if_pos h]
  unfold opAdd at h ⊢
  split at h
  · rename_i h1
    exact absurd h h1
  · rename_i h1
    split at h
    · cases h
    · rename_i h2
      split at h
      · cases h
      · rename_i h3
        rw [if_neg h1, if_neg h2, if_neg h3]
        exact ⟨rfl, rfl⟩

end Go.Proofs.YtmknhokjpmjkkaaDoor
