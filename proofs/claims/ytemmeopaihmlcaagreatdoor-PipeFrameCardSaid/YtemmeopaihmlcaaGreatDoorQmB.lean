/- A view upon a state of at most M objects: Writes, After. A store into a block that belongs to no state and no view keeps both. -/
import Derived.Test.YtemmeopaihmlcaaGreatDoorQmA
import Derived.Test.YtemmeopaihmlcaaGreatDoorAftB
namespace Go.Proofs.YtemmeopaihmlcaaGreatDoor
open Go.RowKit

section
variable {w0 w : World} {b M : Nat} {V V' : AV} {G : Nat → Prop} {e : Int} (s : QM w0 w b M V G)
include s
theorem qmWrites : Calls Tryz.prog 20 #[.pointer (some ⟨b, 0, none⟩)] w fun r w' => ∃ v cs, r = .returned v ∧ RowC w' v cs ∧ cs.Perm (writesU V.calls) ∧ SortedC cs ∧ Below w.heap.size w w' ∧ QM w0 w' b M V G := by
  have s' := s
  obtain ⟨⟨h, hv, hn, rfl, h2, h4⟩, h5⟩ := s
  refine (writes_any h V w hv).mono ?_
  rintro r w' ⟨v, cs, h1, h2, h3, h4, h6⟩
  exact ⟨v, cs, h1, h2, h3, h4, h6, s'.later h6⟩
theorem qmAfter (hN : M + V.calls.length < 60000) : Calls Tryz.prog 48 #[.pointer (some ⟨b, 0, none⟩)] w fun r w' => ∃ sp', r = .returned (.tuple #[.pointer (some ⟨sp', 0, none⟩), .int .i64 0]) ∧ Below w.heap.size w w' ∧ BaseN (M + V.calls.length) w'.heap.size w' sp' (stOf V) := by
  obtain ⟨⟨h, hv, hn, rfl, h2, h4⟩, h5⟩ := s
  exact after_any M h V w hv hn hN
end
end Go.Proofs.YtemmeopaihmlcaaGreatDoor

namespace Go.Proofs.YtemmeopaihmlcaaGreatDoor
open Go.RowKit

/-- A type whose cells are neither of a state's nor of a view's blocks. -/
def Apart (T : TypeId) : Prop := T ≠ 122 ∧ T ≠ 117 ∧ T ≠ 131 ∧ T ≠ 55
section
variable {w w' w0 : World} {R : Nat} {cs : Array Value} {T : TypeId} {fr : Nat × Nat}
theorem apart_ne (hR : w.heap[R]? = some (.cells cs T fr)) {k : Nat} {o : Obj} (hk : w.heap[k]? = some o) (hd : ∀ c f, o ≠ .cells c T f) : k ≠ R := fun e => by
  subst e
  rw [hR] at hk
  exact hd cs fr (Option.some.inj hk).symm
theorem TreeAt.box (hR : w.heap[R]? = some (.cells cs T fr)) (hT : Apart T) (hg : w.grownBy w' (some R)) {t : Tree} (h : TreeAt w t) : TreeAt w' t := by
  induction t with
  | nil => trivial
  | node p l n v r h1 h2 =>
    obtain ⟨a1, a2, a3⟩ := h
    have hne := apart_ne hR a1 (fun _ _ e => hT.1 (Obj.cells.inj e).2.1.symm)
    exact ⟨(hg.block p (lt_of_heap a1) (fun e => hne (Option.some.inj e))).trans a1, h1 a2, h2 a3⟩
theorem StateIn.box (hR : w.heap[R]? = some (.cells cs T fr)) (hT : Apart T) (hg : w.grownBy w' (some R)) {B sp : Nat} {t : Tree} (h : StateIn B w sp t) : StateIn B w' sp t :=
  ⟨(hg.block sp (lt_of_heap h.cell) (fun e => apart_ne hR h.cell (fun _ _ e => hT.2.1 (Obj.cells.inj e).2.1.symm) (Option.some.inj e))).trans h.cell, h.lt, h.at_.box hR hT hg, h.all, h.good, h.vals, h.sz⟩
theorem BaseN.box (hR : w.heap[R]? = some (.cells cs T fr)) (hT : Apart T) (hg : w.grownBy w' (some R)) {N B sp : Nat} {f : NameT → Option ByteArray} (h : BaseN N B w sp f) : BaseN N B w' sp f := by
  obtain ⟨t, h1, h2⟩ := h
  exact ⟨t, h1.box hR hT hg, h2⟩
theorem BaseOk.box (hR : w.heap[R]? = some (.cells cs T fr)) (hT : Apart T) (hg : w.grownBy w' (some R)) {B sp : Nat} {f : NameT → Option ByteArray} (h : BaseOk B w sp f) : BaseOk B w' sp f := by
  obtain ⟨t, h1, h2⟩ := h
  exact ⟨t, h1.box hR hT hg, h2⟩
theorem below_box {B : Nat} (hg : w.grownBy w' (some R)) (hB : B ≤ R) (hR : R < w.heap.size) : Below B w w' := ⟨hg.os, hg.tape, hg.output, hg.size, fun k hk => hg.block k (by omega) (fun e => by cases e; omega)⟩
theorem ViewAt.nfp (hR : w.heap[R]? = some (.cells cs T fr)) (hT : Apart T) {h : VH} {V : AV} (v : ViewAt w h V) {k : Nat} (hf : h.fp k) : k ≠ R := by
  rcases hf with rfl | rfl | rfl | hf
  · exact apart_ne hR v.heap (fun _ _ e => hT.2.2.1 (Obj.cells.inj e).2.1.symm)
  · obtain ⟨es, clock, hb, _⟩ := v.reads
    exact apart_ne hR hb (fun _ _ e => by cases e)
  · obtain ⟨es, clock, hb, _⟩ := v.last
    exact apart_ne hR hb (fun _ _ e => by cases e)
  · rcases v.calls.2 with ⟨h1, _⟩ | ⟨g, cap, cur, h1, h2, h3, _⟩
    · rw [h1] at hf; cases hf
    · rw [h1] at hf
      simp [Value.ownBlock] at hf
      subst hf
      exact apart_ne hR h3 (fun _ _ e => hT.2.2.2 (Obj.cells.inj e).2.1.symm)
theorem ViewAt.box (hR : w.heap[R]? = some (.cells cs T fr)) (hT : Apart T) (h0 : 0 < R) (hg : w.grownBy w' (some R)) {h : VH} {V : AV} (v : ViewAt w h V) : ViewAt w' h V := by
  have hk : ∀ k, h.fp k → w'.heap[k]? = w.heap[k]? := fun k hf => hg.block k (v.fp_lt hf) (fun e => v.nfp hR hT hf (Option.some.inj e))
  exact
  { heap := (hk _ (.inl rfl)).trans v.heap
    reads := v.reads.kept (hk _ (.inr (.inl rfl)))
    last := v.last.kept (hk _ (.inr (.inr (.inl rfl))))
    calls := row_kept v.calls (fun g hg => hk g (.inr (.inr (.inr hg))))
    apart := v.apart
    usages := v.usages.below (below_box (B := 1) hg h0 (lt_of_heap hR)) (by decide)
    base := v.base.box hR hT hg
    lo := v.lo
    pos := v.pos
    top := Nat.le_trans v.top hg.size
    len := v.len
    ok := v.ok
    rdk := v.rdk }
theorem QM.box (hR : w.heap[R]? = some (.cells cs T fr)) (hT : Apart T) (h0 : 0 < R) (hw0 : w0.heap.size ≤ R) (hg : w.grownBy w' (some R)) {b M : Nat} {V : AV} {G : Nat → Prop} (s : QM w0 w b M V G) : QM w0 w' b M V G := by
  obtain ⟨⟨h, hv, hn, h1, h2, h4⟩, h5⟩ := s
  exact ⟨⟨h, hv.box hR hT h0 hg, hn.box hR hT hg, h1, h2, fun k hk => ⟨(h4 k hk).1, Nat.lt_of_lt_of_le (h4 k hk).2.1 hg.size, (h4 k hk).2.2⟩⟩, h5.trans (below_box hg hw0 (lt_of_heap hR))⟩
theorem QM.from {w1 : World} {b M : Nat} {V : AV} {G : Nat → Prop} (s : QM w1 w b M V G) (hb : Below w0.heap.size w0 w1) : QM w0 w b M V G := by
  obtain ⟨⟨h, hv, hn, h1, h2, h4⟩, h5⟩ := s
  exact ⟨⟨h, hv, hn, h1, Nat.le_trans hb.size h2, h4⟩, hb.trans (h5.mono hb.size)⟩
end
end Go.Proofs.YtemmeopaihmlcaaGreatDoor
