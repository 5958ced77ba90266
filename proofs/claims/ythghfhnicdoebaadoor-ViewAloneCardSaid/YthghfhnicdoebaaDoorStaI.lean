/- state: without, Without. state: Without, Apply. -/
import Derived.Test.YthghfhnicdoebaaDoorStaG
namespace Go.Proofs.YthghfhnicdoebaaDoor
open Go.RowKit

/-- What without leaves. -/
def WoPost (w : World) (t : Tree) (n : NameT) (e : Ending) (w' : World) : Prop := ∃ t', e = .returned (.pointer (ptrA t')) ∧ Below w.heap.size w w' ∧ TreeAt w' t' ∧ Del cmpN t n t'
theorem del_sz {t t' : Tree} {n : NameT} (p : Del cmpN t n t') : t'.sz ≤ t.sz := by
  rw [Tr.sz_ents, Tr.sz_ents, p.ents]; exact List.length_filter_le _ _
theorem Good.del {t t' : Tree} {n : NameT} (h : Good t) (p : Del cmpN t n t') : Good t' := by
  refine ⟨p.avl, by rw [p.ents]; exact sort_del h.sort n, fun e he => ?_, fun e he => ?_⟩
  all_goals
    rw [p.ents] at he
    have he' := (List.mem_filter.1 he).1
    first | exact h.fit e he' | exact h.val e he'
/-- The first entry of a tree. -/
theorem first_entry (t : Tree) : ∀ (w : World), TreeAt w t → t ≠ .nil → ∃ q n v es, t.ents = (n, v) :: es ∧ MidAt w q n v := by
  induction t with
  | nil => intro w h h0; exact absurd rfl h0
  | node p l n v r hl hr =>
    intro w h _
    cases l with
    | nil => exact ⟨p, n, v, r.ents, by simp [Tr.ents], h.mid⟩
    | node p' l' n' v' r' =>
      obtain ⟨q, m, u, es, h1, h2⟩ := hl w h.2.1 (by simp)
      refine ⟨q, m, u, es ++ (n, v) :: r.ents, ?_, h2⟩
      rw [Tr.ents, h1]; rfl

end Go.Proofs.YthghfhnicdoebaaDoor

namespace Go.Proofs.YthghfhnicdoebaaDoor
open Go.RowKit

/-- A state without a value. -/
def delF (f : NameT → Option ByteArray) (n : NameT) : NameT → Option ByteArray := fun k => if k = n then none else f k
def SDPost (N : Nat) (w : World) (f : NameT → Option ByteArray) (n : NameT) (r : Ending) (w' : World) : Prop :=
  ∃ sp', r = .returned (.tuple #[.pointer (some ⟨sp', 0, none⟩), .int .i64 0]) ∧ Below w.heap.size w w' ∧ BaseN N w'.heap.size w' sp' (delF f n)

theorem wo_fin {N : Nat} {w w3 w4 : World} {f : NameT → Option ByteArray} {n : NameT} {t' : Tree} {r : Ending} (hr : r = .returned (.tuple #[.pointer (some ⟨w3.heap.size, 0, none⟩), .int .i64 0])) (hw : w4 = w3.alloc (.cells #[.pointer (ptrA t')] 86)) (hb : Below w.heap.size w w3)
    (hn : ∀ W sp', TreeAt W t' → W.heap[sp']? = some (.cells #[.pointer (ptrA t')] 86 (0, 0)) → BaseN N W.heap.size W sp' (delF f n)) (ht : TreeAt w3 t') : SDPost N w f n r w4 := by
  subst hw
  have hb2 : Below w3.heap.size w3 (w3.alloc (.cells #[.pointer (ptrA t')] 86)) := (Below.refl _ _).alloc (Nat.le_refl _) _
  exact ⟨_, hr, hb.trans (hb2.mono hb.size), hn _ _ (ht.below hb2) (World.alloc_heap_new w3 _)⟩
/-- A slice that reads as a list of changes. -/
def RowC (w : World) (v : Value) (cs : List ChangeT) : Prop :=
  ∃ a cap, v = .slice a cs.length cap ∧ ∀ i c, cs[i]? = some c → ∃ g, a = some ⟨g, 0, none⟩ ∧ ∀ j u, (changeCells c)[j]? = some u → w.cell? ⟨g, i * 7 + j, none⟩ = some u
theorem RowC.later {w w' : World} {v : Value} {cs : List ChangeT} (h : RowC w v cs) (hb : Below w.heap.size w w') : RowC w' v cs := by
  obtain ⟨a, cap, rfl, hc⟩ := h
  refine ⟨a, cap, rfl, fun i c hi => ?_⟩
  obtain ⟨g, rfl, hg⟩ := hc i c hi
  exact ⟨g, rfl, fun j u hj => (hb.cell (p := ⟨g, i * 7 + j, none⟩) (World.block_lt_of_cell? w _ (hg j u hj))).trans (hg j u hj)⟩
/-- A state after a change. -/
def applyC (f : NameT → Option ByteArray) (c : ChangeT) : NameT → Option ByteArray := if c.absent = true then delF f c.name else setF f c.name c.value
def applyF (f : NameT → Option ByteArray) (cs : List ChangeT) : NameT → Option ByteArray := cs.foldl applyC f
def SAPost (N : Nat) (w : World) (f : NameT → Option ByteArray) (cs : List ChangeT) (r : Ending) (w' : World) : Prop :=
  ∃ sp', r = .returned (.tuple #[.pointer (some ⟨sp', 0, none⟩), .int .i64 0]) ∧ Below w.heap.size w w' ∧ BaseN (N + cs.length) w'.heap.size w' sp' (applyF f cs)
theorem applyF_take {f : NameT → Option ByteArray} {cs : List ChangeT} {k : Nat} {c : ChangeT} (h : cs[k]? = some c) : applyF f (cs.take (k + 1)) = applyC (applyF f (cs.take k)) c := by
  unfold applyF
  rw [List.take_add_one, h]
  simp

end Go.Proofs.YthghfhnicdoebaaDoor
