/- descriptor, upon a view whose value is known: add. (printed by wip/gen_dsci.py) -/
import Derived.Test.YtfchfjipkggnkaaDoorDscI
namespace Go.Proofs.YtfchfjipkggnkaaDoor
open Go.RowKit
attribute [local go_sem ↓] run_eql_opn run_neq_opn

section
variable {w0 w : World} {b M : Nat} {V : AV} {G : Nat → Prop} (s : QM w0 w b M V G)
include s
set_option maxRecDepth 100000 in
set_option maxHeartbeats 6400000 in
theorem qdAddT (who : ByteArray) (hw : who.size ≤ 70368744177664) (hv : validB who = true) (t : List OpnT) (ht : t.length = 16) (hE : tabE t = 0) (kd : Int) (mak : ByteArray) (bn num off : Int) (rd wr ap : Bool) (ho : checkO ⟨kd, mak, bn, num, off, rd, wr, ap⟩ = 0) (hlen : V.calls.length < 1000000) : Calls Tryd.prog 45 #[.pointer (some ⟨b, 0, none⟩), .string who, .agg (tabA t), .agg #[.int .i64 kd, .string mak, .int .i64 bn, .int .i64 num, .int .i64 off, .bool rd, .bool wr, .bool ap]] w (QMP w0 b M (putR V who (addF ⟨kd, mak, bn, num, off, rd, wr, ap⟩ t)).1 G w (.tuple #[.int .i64 (putR V who (addF ⟨kd, mak, bn, num, off, rd, wr, ap⟩ t)).2.N, .int .i64 (putR V who (addF ⟨kd, mak, bn, num, off, rd, wr, ap⟩ t)).2.E])) := by
  have hE0 : ∀ k, k = w.heap.size → w.heap.size ≤ k ∧ k < ((w.alloc (.cells (tabA t) 31)).alloc (.cells #[.int .i64 kd, .string mak, .int .i64 bn, .int .i64 num, .int .i64 off, .bool rd, .bool wr, .bool ap] 26)).heap.size := fun k hk => by subst hk; simp; omega
  have hb0 : Below w.heap.size w ((w.alloc (.cells (tabA t) 31)).alloc (.cells #[.int .i64 kd, .string mak, .int .i64 bn, .int .i64 num, .int .i64 off, .bool rd, .bool wr, .bool ap] 26)) := ((Below.refl _ _).alloc (Nat.le_refl _) _).alloc (by simp) _
  have Q0 := Lib.hid (s.qi (W := ((w.alloc (.cells (tabA t) 31)).alloc (.cells #[.int .i64 kd, .string mak, .int .i64 bn, .int .i64 num, .int .i64 off, .bool rd, .bool wr, .bool ap] 26))) (E := fun k => k = w.heap.size) hb0 hE0)
  have T0 := Lib.hid ((new_tab w ht).later (w' := ((w.alloc (.cells (tabA t) 31)).alloc (.cells #[.int .i64 kd, .string mak, .int .i64 bn, .int .i64 num, .int .i64 off, .bool rd, .bool wr, .bool ap] 26))) ((Below.refl _ _).alloc (Nat.le_refl _) _))
  have X0 : Hid (OpnAt ((w.alloc (.cells (tabA t) 31)).alloc (.cells #[.int .i64 kd, .string mak, .int .i64 bn, .int .i64 num, .int .i64 off, .bool rd, .bool wr, .bool ap] 26)) (w.heap.size + 1) ⟨kd, mak, bn, num, off, rd, wr, ap⟩) := by
    have := World.alloc_heap_new (w.alloc (.cells (tabA t) 31)) (.cells #[.int .i64 kd, .string mak, .int .i64 bn, .int .i64 num, .int .i64 off, .bool rd, .bool wr, .bool ap] 26)
    rw [World.size_alloc] at this
    exact this
  have Hall : Hid (tabE t = 0 ∧ t.length = 16 ∧ checkO ⟨kd, mak, bn, num, off, rd, wr, ap⟩ = 0 ∧ validB who = true ∧ who.size ≤ 70368744177664 ∧ V.calls.length < 1000000) := ⟨hE, ht, ho, hv, hw, hlen⟩
  clear hE0 hb0 s hE ht ho hv hw hlen
  go_enter Tryd.func45, Tryd.ntmps45
  go_wp2_with fail
  refine (indexFree_any w.heap.size t _ T0.out).mono ?_
  rintro r w2 ⟨rfl, hb⟩
  have Q1 := Lib.hid (Q0.out.later hb)
  have T1 := Lib.hid (T0.out.later hb)
  have X1 := Lib.hid (X0.out.later hb)
  clear hb Q0 T0 X0
  rcases freeI_cases t Hall.out.2.1 with ⟨h1, h2⟩ | ⟨i, h1, h2, h3⟩
  · have HR : Hid (putR V who (addF ⟨kd, mak, bn, num, off, rd, wr, ap⟩ t) = (V, errD 9)) := by
      show _ = _
      unfold addF
      rw [h1]
      rfl
    rw [h2]
    clear h1 h2
    go_wp2
    go_ret2
    rw [HR.out]
    exact Q1.out.post _
  · have HR : Hid (putR V who (addF ⟨kd, mak, bn, num, off, rd, wr, ap⟩ t) = (addV V (chgD who (some (t.set i ⟨kd, mak, bn, num, off, rd, wr, ap⟩))), ⟨zeroTab, zeroO, i, 0⟩)) := by
      show _ = _
      unfold addF
      rw [h1]
      rfl
    have HG := Lib.hid (addF_good (o := ⟨kd, mak, bn, num, off, rd, wr, ap⟩) Hall.out.1 Hall.out.2.1 Hall.out.2.2.1 (t' := t.set i ⟨kd, mak, bn, num, off, rd, wr, ap⟩) (by unfold addF; rw [h1]))
    rw [h2]
    clear h1 h2
    obtain ⟨old, hold⟩ := ent_some Hall.out.2.1 h3
    obtain ⟨kd0, mak0, bn0, num0, off0, rd0, wr0, ap0⟩ := old
    obtain ⟨c0, c1, c2, c3, c4, c5, c6, c7⟩ := X1.out.cells
    have z0 : w2.cell? ⟨w.heap.size, i * 8, none⟩ = some (.int .i64 kd0) := T1.out.cell hold (j := 0) rfl
    have y0 := T1.out.free (i * 8)
    have z1 : w2.cell? ⟨w.heap.size, i * 8 + 1, none⟩ = some (.string mak0) := T1.out.cell hold (j := 1) rfl
    have y1 := T1.out.free (i * 8 + 1)
    have z2 : w2.cell? ⟨w.heap.size, i * 8 + 2, none⟩ = some (.int .i64 bn0) := T1.out.cell hold (j := 2) rfl
    have y2 := T1.out.free (i * 8 + 2)
    have z3 : w2.cell? ⟨w.heap.size, i * 8 + 3, none⟩ = some (.int .i64 num0) := T1.out.cell hold (j := 3) rfl
    have y3 := T1.out.free (i * 8 + 3)
    have z4 : w2.cell? ⟨w.heap.size, i * 8 + 4, none⟩ = some (.int .i64 off0) := T1.out.cell hold (j := 4) rfl
    have y4 := T1.out.free (i * 8 + 4)
    have z5 : w2.cell? ⟨w.heap.size, i * 8 + 5, none⟩ = some (.bool rd0) := T1.out.cell hold (j := 5) rfl
    have y5 := T1.out.free (i * 8 + 5)
    have z6 : w2.cell? ⟨w.heap.size, i * 8 + 6, none⟩ = some (.bool wr0) := T1.out.cell hold (j := 6) rfl
    have y6 := T1.out.free (i * 8 + 6)
    have z7 : w2.cell? ⟨w.heap.size, i * 8 + 7, none⟩ = some (.bool ap0) := T1.out.cell hold (j := 7) rfl
    have y7 := T1.out.free (i * 8 + 7)
    have i0 : (0 : Int) ≤ (i : Int) := by omega
    have i1 : (i : Int) < 16 := by omega
    have i2 : ¬ (i : Int) < 0 := by omega
    have T2 := Lib.hid (tab_stored T1.out h3 ⟨kd, mak, bn, num, off, rd, wr, ap⟩)
    have Q2 := Lib.hid (Q1.out.grown w.heap.size rfl (grown_set8 w2 w.heap.size (i * 8) (i * 8 + 1) (i * 8 + 2) (i * 8 + 3) (i * 8 + 4) (i * 8 + 5) (i * 8 + 6) (i * 8 + 7) (.int .i64 kd) (.string mak) (.int .i64 bn) (.int .i64 num) (.int .i64 off) (.bool rd) (.bool wr) (.bool ap)))
    dsimp only at T2 Q2
    obtain ⟨wz, hwz⟩ : ∃ wz, ((((((((w2.setCell ⟨w.heap.size, i * 8, none⟩ (.int .i64 kd)).setCell ⟨w.heap.size, i * 8 + 1, none⟩ (.string mak)).setCell ⟨w.heap.size, i * 8 + 2, none⟩ (.int .i64 bn)).setCell ⟨w.heap.size, i * 8 + 3, none⟩ (.int .i64 num)).setCell ⟨w.heap.size, i * 8 + 4, none⟩ (.int .i64 off)).setCell ⟨w.heap.size, i * 8 + 5, none⟩ (.bool rd)).setCell ⟨w.heap.size, i * 8 + 6, none⟩ (.bool wr)).setCell ⟨w.heap.size, i * 8 + 7, none⟩ (.bool ap)) = wz := ⟨_, rfl⟩
    rw [hwz] at T2 Q2
    clear hold Q1 T1 X1 h3
    go_wp2
    refine wp_load_tab _ (by rfl) w.heap.size (by rfl) T2.out ?_
    clear hwz z0 z1 z2 z3 z4 z5 z6 z7 y0 y1 y2 y3 y4 y5 y6 y7 c0 c1 c2 c3 c4 c5 c6 c7
    go_wp2_with fail
    refine (qdWrite Q2.out.s who Hall.out.2.2.2.2.1 Hall.out.2.2.2.1 _ HG.out.2 HG.out.1 (maks_ok HG.out.1) Hall.out.2.2.2.2.2).mono ?_
    rintro r w4 ⟨rfl, s4, hk⟩
    have Q3 := Lib.hid (Q2.out.step s4 hk)
    clear s4 hk Q2 T2
    go_wp2
    go_ret2
    rw [HR.out]
    exact Q3.out.post _
end
end Go.Proofs.YtfchfjipkggnkaaDoor
