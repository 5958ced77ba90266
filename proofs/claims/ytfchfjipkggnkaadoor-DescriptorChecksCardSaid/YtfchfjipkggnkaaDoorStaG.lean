/- state: balance in every case. state: with. state: Len, With. -/
import Derived.Test.YtfchfjipkggnkaaDoorStaB
import Derived.Test.YtfchfjipkggnkaaDoorStaF
import Derived.Test.YtfchfjipkggnkaaDoorViewB
import Derived.Deep.QuietTactic
namespace Go.Proofs.YtfchfjipkggnkaaDoor
open Go.RowKit

end Go.Proofs.YtfchfjipkggnkaaDoor

namespace Go.Proofs.YtfchfjipkggnkaaDoor
open Go.RowKit

theorem Good.put {t t' : Tree} {n : NameT} {v : ByteArray} (h : Good t) (hn : FitN n) (hv : v.size ≤ 100000000) (p : Put cmpN t n v t') : Good t' := by
  refine ⟨p.avl, by rw [p.ents]; exact sort_put cmpN_ok h.sort n v, fun e he => ?_, fun e he => ?_⟩
  all_goals
    rw [p.ents] at he
    rcases putL_mem he with rfl | he
    · assumption
    · first | exact h.fit e he | exact h.val e he
theorem Good.bys {t : Tree} (h : Good t) : t.bys ≤ 100000000 * t.sz := Tr.by_le _ _ _ h.val
theorem jc_of {l r : Tree} {v : ByteArray} (hl : Good l) (hr : Good r) (hv : v.size ≤ 100000000) (hs : l.sz + r.sz ≤ 80000) : JC l r v := by
  have h1 := hl.bys
  have h2 := hr.bys
  exact ⟨by omega, by omega, hv⟩
theorem put_sz {t t' : Tree} {n : NameT} {v : ByteArray} (p : Put cmpN t n v t') : t'.sz ≤ t.sz + 1 := by
  rw [Tr.sz_ents, Tr.sz_ents, p.ents]; exact put_length n v

/-- What with leaves. -/
def WithPost (w : World) (t : Tree) (n : NameT) (v : ByteArray) (e : Ending) (w' : World) : Prop := ∃ t', e = .returned (.pointer (ptrA t')) ∧ Below w.heap.size w w' ∧ TreeAt w' t' ∧ Put cmpN t n v t'

end Go.Proofs.YtfchfjipkggnkaaDoor

namespace Go.Proofs.YtfchfjipkggnkaaDoor
open Go.RowKit

theorem below_toDrewN {B : Nat} {w w1 : World} (h : Below B w w1) (k : Nat) : Below B w (w1.drewN k) := ⟨h.os, h.tape, h.output, h.size, h.block⟩
theorem mid_fresh (W : World) (n : NameT) (v : ByteArray) : MidAt (W.alloc (.cells #[.pointer none, .pointer none, .int .i64 n.kind, .string n.owner, .int .i64 n.number, .int .i64 n.index, .string n.text, .string v, .int .i64 0, .int .i64 0, .int .i64 0] 144)) W.heap.size n v := ⟨_, _, _, _, _, World.alloc_heap_new W _⟩
theorem with_fresh {B : Nat} {w W : World} {o : Obj} (h : Below B w W) (hB : B ≤ w.heap.size) : Below B w (W.drew.alloc o) := (h.drew).alloc (Nat.le_trans hB h.size) _
/-- What With leaves. -/
def SWithPost (w : World) (t : Tree) (n : NameT) (v : ByteArray) (r : Ending) (w' : World) : Prop :=
  ∃ sp' t', r = .returned (.tuple #[.pointer (some ⟨sp', 0, none⟩), .int .i64 0]) ∧ Below w.heap.size w w' ∧ Put cmpN t n v t' ∧ w'.heap[sp']? = some (.cells #[.pointer (ptrA t')] 89 (0, 0)) ∧ TreeAt w' t'

theorem with_fin {w w2 w3 : World} {t t' : Tree} {n : NameT} {v : ByteArray} {r : Ending} (hr : r = .returned (.tuple #[.pointer (some ⟨w2.heap.size, 0, none⟩), .int .i64 0])) (hw : w3 = w2.alloc (.cells #[.pointer (ptrA t')] 89)) (hb : Below w.heap.size w w2) (ht : TreeAt w2 t') (hp : Put cmpN t n v t') : SWithPost w t n v r w3 := by
  subst hw
  have hb2 : Below w2.heap.size w2 (w2.alloc (.cells #[.pointer (ptrA t')] 89)) := (Below.refl _ _).alloc (Nat.le_refl _) _
  exact ⟨_, t', hr, hb.trans (hb2.mono hb.size), hp, World.alloc_heap_new w2 _, ht.below hb2⟩
/-- The state at sp answers f, and has at most N objects. -/
def BaseN (N : Nat) (B : Nat) (w : World) (sp : Nat) (f : NameT → Option ByteArray) : Prop := ∃ t, StateIn B w sp t ∧ t.sz ≤ N ∧ ∀ n, f n = getL cmpN t.ents n
theorem BaseN.ok {N B : Nat} {w : World} {sp : Nat} {f : NameT → Option ByteArray} (h : BaseN N B w sp f) : BaseOk B w sp f := by
  obtain ⟨t, h1, _, h2⟩ := h; exact ⟨t, h1, h2⟩
theorem BaseN.later {N B : Nat} {w w1 : World} {sp : Nat} {f : NameT → Option ByteArray} (h : BaseN N B w sp f) (hb : Below B w w1) : BaseN N B w1 sp f := by
  obtain ⟨t, h1, h2⟩ := h
  exact ⟨t, h1.later hb, h2⟩
theorem BaseN.up {N B B' : Nat} {w : World} {sp : Nat} {f : NameT → Option ByteArray} (h : BaseN N B w sp f) (hB : B ≤ B') : BaseN N B' w sp f := by
  obtain ⟨t, h1, h2⟩ := h
  exact ⟨t, h1.up hB, h2⟩
theorem baseN_empty (w : World) : BaseN 0 (w.alloc (.cells #[.pointer none] 89)).heap.size (w.alloc (.cells #[.pointer none] 89)) w.heap.size (fun _ => none) :=
  ⟨.nil, ⟨World.alloc_heap_new w _, by simp, trivial, trivial, ⟨trivial, List.Pairwise.nil, fun e he => by simp [Tr.ents] at he, fun e he => by simp [Tr.ents] at he⟩, fun e he => by simp [Tr.ents] at he, Nat.zero_le _⟩, Nat.le_refl _, fun _ => rfl⟩

/-- A state with one more value. -/
def setF (f : NameT → Option ByteArray) (n : NameT) (v : ByteArray) : NameT → Option ByteArray := fun k => if k = n then some v else f k
def SWPost (N : Nat) (w : World) (f : NameT → Option ByteArray) (n : NameT) (v : ByteArray) (r : Ending) (w' : World) : Prop :=
  ∃ sp', r = .returned (.tuple #[.pointer (some ⟨sp', 0, none⟩), .int .i64 0]) ∧ Below w.heap.size w w' ∧ BaseN (N + 1) w'.heap.size w' sp' (setF f n v)
theorem put_vals {t t' : Tree} {n : NameT} {v : ByteArray} (h : ∀ e ∈ t.ents, e.2.size ≤ 65536) (hv : v.size ≤ 65536) (p : Put cmpN t n v t') : ∀ e ∈ t'.ents, e.2.size ≤ 65536 := by
  intro e he
  rw [p.ents] at he
  rcases putL_mem he with rfl | he
  · exact hv
  · exact h e he
end Go.Proofs.YtfchfjipkggnkaaDoor
