/- state: heightOf, sizeOf, bytesOf, join. -/
import Derived.Test.YtemmeopaihmlcaaDoorStaF
import Derived.Deep.RegionHeld3
import Derived.StillTailTactics
import Derived.IntWalk
namespace Go.Proofs.YtemmeopaihmlcaaDoor
open Go.RowKit

theorem heightOf_any (t : Tree) (w : World) (h : TreeAt w t) : Calls Tryd.prog 105 #[ptrV t] w fun e w' => e = .returned (.int .i64 t.ht) ∧ w = w' := by
  cases t with
  | nil =>
    unfold ptrV ptrA
    go_enter Tryd.func105, Tryd.ntmps105
    go_wp2_with fail
    go_ret
    exact ⟨rfl, rfl⟩
  | node p l n v r =>
    have c := cell_of_heap h.1 8
    have c' : w.cell? ⟨p, 8, none⟩ = some (.int .i64 ((Tr.node p l n v r).ht : Nat)) := c
    clear c
    generalize (Tr.node p l n v r).ht = x at *
    unfold ptrV ptrA
    have H := Lib.hid h; clear h
    go_enter Tryd.func105, Tryd.ntmps105
    go_wp2_with fail
    go_ret
    exact ⟨rfl, rfl⟩
theorem sizeOf_any (t : Tree) (w : World) (h : TreeAt w t) : Calls Tryd.prog 64 #[ptrV t] w fun e w' => e = .returned (.int .i64 t.sz) ∧ w = w' := by
  cases t with
  | nil =>
    unfold ptrV ptrA
    go_enter Tryd.func64, Tryd.ntmps64
    go_wp2_with fail
    go_ret
    exact ⟨rfl, rfl⟩
  | node p l n v r =>
    have c := cell_of_heap h.1 9
    have c' : w.cell? ⟨p, 9, none⟩ = some (.int .i64 ((Tr.node p l n v r).sz : Nat)) := c
    clear c
    generalize (Tr.node p l n v r).sz = x at *
    unfold ptrV ptrA
    have H := Lib.hid h; clear h
    go_enter Tryd.func64, Tryd.ntmps64
    go_wp2_with fail
    go_ret
    exact ⟨rfl, rfl⟩
theorem bytesOf_any (t : Tree) (w : World) (h : TreeAt w t) : Calls Tryd.prog 106 #[ptrV t] w fun e w' => e = .returned (.int .i64 t.bys) ∧ w = w' := by
  cases t with
  | nil =>
    unfold ptrV ptrA
    go_enter Tryd.func106, Tryd.ntmps106
    go_wp2_with fail
    go_ret
    exact ⟨rfl, rfl⟩
  | node p l n v r =>
    have c := cell_of_heap h.1 10
    have c' : w.cell? ⟨p, 10, none⟩ = some (.int .i64 ((Tr.node p l n v r).bys : Nat)) := c
    clear c
    generalize (Tr.node p l n v r).bys = x at *
    unfold ptrV ptrA
    have H := Lib.hid h; clear h
    go_enter Tryd.func106, Tryd.ntmps106
    go_wp2_with fail
    go_ret
    exact ⟨rfl, rfl⟩

/-- What join leaves. -/
def JoinPost (w : World) (l : Tree) (n : NameT) (v : ByteArray) (r : Tree) (e : Ending) (w' : World) : Prop := ∃ p, e = .returned (.pointer (some ⟨p, 0, none⟩)) ∧ Below w.heap.size w w' ∧ TreeAt w' (.node p l n v r)

theorem join_fin {l r : Tree} {n : NameT} {v : ByteArray} {w w' : World} {H S B : Int} {e : Ending} {a : Nat}
    (hw : w' = (w.drew.alloc (.cells #[.pointer (ptrA l), .pointer (ptrA r), .int .i64 n.kind, .string n.owner, .int .i64 n.number, .int .i64 n.index, .string n.text, .string v, .int .i64 H, .int .i64 S, .int .i64 B] 74)))
    (hl : TreeAt w l) (hr : TreeAt w r) (he : e = .returned (.pointer (some ⟨a, 0, none⟩))) (ha : a = w.heap.size) (h1 : H = ((Tr.node w.heap.size l n v r).ht : Nat)) (h2 : S = ((Tr.node w.heap.size l n v r).sz : Nat)) (h3 : B = ((Tr.node w.heap.size l n v r).bys : Nat)) : JoinPost w l n v r e w' := by
  subst hw he ha
  have hb : Below w.heap.size w (w.drew.alloc (.cells #[.pointer (ptrA l), .pointer (ptrA r), .int .i64 n.kind, .string n.owner, .int .i64 n.number, .int .i64 n.index, .string n.text, .string v, .int .i64 H, .int .i64 S, .int .i64 B] 74)) := ((Below.refl _ w).drew).alloc (Nat.le_refl _) _
  refine ⟨w.heap.size, rfl, hb, ?_, hl.below hb, hr.below hb⟩
  have := World.alloc_heap_new w.drew (.cells #[.pointer (ptrA l), .pointer (ptrA r), .int .i64 n.kind, .string n.owner, .int .i64 n.number, .int .i64 n.index, .string n.text, .string v, .int .i64 H, .int .i64 S, .int .i64 B] 74)
  rw [h1, h2, h3] at this ⊢
  exact this
set_option maxRecDepth 100000 in
set_option maxHeartbeats 1600000 in
theorem join_any (l r : Tree) (q : Nat) (n : NameT) (v : ByteArray) (w : World) (hl : TreeAt w l) (hr : TreeAt w r) (hm : MidAt w q n v)
    (h1 : l.ht ≤ 100000000) (h2 : r.ht ≤ 100000000) (s1 : l.sz ≤ 100000000) (s2 : r.sz ≤ 100000000) (b1 : l.bys ≤ 100000000000000) (b2 : r.bys ≤ 100000000000000) (hv : v.size ≤ 100000000) :
    Calls Tryd.prog 66 #[ptrV l, .pointer (some ⟨q, 0, none⟩), ptrV r] w (JoinPost w l n v r) := by
  obtain ⟨x0, x1, x8, x9, x10, hq⟩ := hm
  have c2 : w.cell? ⟨q, 2, none⟩ = some (.int .i64 n.kind) := cell_of_heap hq 2
  have c3 : w.cell? ⟨q, 3, none⟩ = some (.string n.owner) := cell_of_heap hq 3
  have c4 : w.cell? ⟨q, 4, none⟩ = some (.int .i64 n.number) := cell_of_heap hq 4
  have c5 : w.cell? ⟨q, 5, none⟩ = some (.int .i64 n.index) := cell_of_heap hq 5
  have c6 : w.cell? ⟨q, 6, none⟩ = some (.string n.text) := cell_of_heap hq 6
  have c7 : w.cell? ⟨q, 7, none⟩ = some (.string v) := cell_of_heap hq 7
  have Hl := Lib.hid hl; clear hl
  have Hr := Lib.hid hr; clear hr
  have Hq := Lib.hid hq; clear hq
  have e3 : IntKind.i64.wrap (1 + ((l.sz : Nat) : Int)) = 1 + ((l.sz : Nat) : Int) := IntWalk.i64_in _ (by omega)
  have e4 : IntKind.i64.wrap (1 + ((l.sz : Nat) : Int) + ((r.sz : Nat) : Int)) = 1 + ((l.sz : Nat) : Int) + ((r.sz : Nat) : Int) := IntWalk.i64_in _ (by omega)
  have e5 : IntKind.i64.wrap (((v.size : Nat) : Int) + ((l.bys : Nat) : Int)) = ((v.size : Nat) : Int) + ((l.bys : Nat) : Int) := IntWalk.i64_in _ (by omega)
  have e6 : IntKind.i64.wrap (((v.size : Nat) : Int) + ((l.bys : Nat) : Int) + ((r.bys : Nat) : Int)) = ((v.size : Nat) : Int) + ((l.bys : Nat) : Int) + ((r.bys : Nat) : Int) := IntWalk.i64_in _ (by omega)
  have E1 : Hid (IntKind.i64.wrap (1 + ((l.ht : Nat) : Int)) = 1 + ((l.ht : Nat) : Int)) := IntWalk.i64_in _ (by omega)
  have E2 : Hid (IntKind.i64.wrap (1 + ((r.ht : Nat) : Int)) = 1 + ((r.ht : Nat) : Int)) := IntWalk.i64_in _ (by omega)
  rcases Nat.lt_or_ge l.ht r.ht with hm | hm
  all_goals
    have hmI := Int.ofNat_le.2 hm
    have hmB : decide (((l.ht : Nat) : Int) < ((r.ht : Nat) : Int)) = decide (l.ht < r.ht) := by simp
    have e1 := E1.out
    have e2 := E2.out
    go_enter Tryd.func66, Tryd.ntmps66
    go_wp2_with fail
    refine wp_region_still_tail 34 (by kernel_rfl) (by kernel_rfl) ?_
    simp only [List.take_succ_cons, List.take_zero, List.drop_succ_cons, List.drop_zero]
    iterate 11 still_step
    still_call ((heightOf_any l { w with drawn := w.drawn + 1 } Hl.out.drew).mono fun _ _ h => ⟨h.1, h.2.symm⟩)
    still_step
    still_call ((heightOf_any r { w with drawn := w.drawn + 1 } Hr.out.drew).mono fun _ _ h => ⟨h.1, h.2.symm⟩)
    iterate 3 still_step
    still_call ((sizeOf_any l { w with drawn := w.drawn + 1 } Hl.out.drew).mono fun _ _ h => ⟨h.1, h.2.symm⟩)
    iterate 2 still_step
    still_call ((sizeOf_any r { w with drawn := w.drawn + 1 } Hr.out.drew).mono fun _ _ h => ⟨h.1, h.2.symm⟩)
    iterate 7 still_step
    still_call ((bytesOf_any l { w with drawn := w.drawn + 1 } Hl.out.drew).mono fun _ _ h => ⟨h.1, h.2.symm⟩)
    iterate 2 still_step
    still_call ((bytesOf_any r { w with drawn := w.drawn + 1 } Hr.out.drew).mono fun _ _ h => ⟨h.1, h.2.symm⟩)
    iterate 2 still_step
    refine wpStill_nil ?_
    change wpList _ _ _ _ _ w.drew
    go_wp2
    go_ret
    exact join_fin rfl Hl.out Hr.out rfl rfl (by simp only [Tr.ht]; omega) (by simp only [Tr.sz]; omega) (by simp only [Tr.bys, Tr.by_]; omega)
end Go.Proofs.YtemmeopaihmlcaaDoor
