/- pipe: what the operations do with a pipe. -/
import Derived.Test.YtemmeopaihmlcaaGreatDoorPipE
import Derived.BigQuiet
import Derived.BigRegion
import Derived.Deep.DeepCutAuto
namespace Go.Proofs.YtemmeopaihmlcaaGreatDoor
open Go.RowKit
attribute [local go_sem ↓] Go.wp_at_zero Go.wp_at_succ

def opRead (most : Int) (p : PipeT) : PipeT × Nat :=
  if most < 0 then (p, 2) else if 0 < most ∧ p.bytes.size = 0 ∧ 0 < p.writers then (p, 19) else (⟨p.epoch, p.readers, p.writers, p.bytes.extract (min most.toNat p.bytes.size) p.bytes.size⟩, 0)
def readB (most : Int) (p : PipeT) : ByteArray := p.bytes.extract 0 (min most.toNat p.bytes.size)
def writeN (s : ByteArray) (p : PipeT) : Nat := if s.size = 0 then 0 else min s.size (256 - p.bytes.size)
def opWrite (s : ByteArray) (p : PipeT) : PipeT × Nat :=
  if s.size = 0 then (p, 0) else if p.readers = 0 then (p, 20) else if p.bytes.size = 256 then (p, 19) else (⟨p.epoch, p.readers, p.writers, p.bytes ++ s.extract 0 (writeN s p)⟩, 0)
def opJoin (w : Bool) (p : PipeT) : PipeT × Nat :=
  if w = true then (if p.writers = 0 then (p, 20) else if p.writers = 64 then (p, 9) else (⟨p.epoch, p.readers, p.writers + 1, p.bytes⟩, 0))
  else (if p.readers = 0 then (p, 20) else if p.readers = 64 then (p, 9) else (⟨p.epoch, p.readers + 1, p.writers, p.bytes⟩, 0))
def opLeave (w : Bool) (p : PipeT) : PipeT × Nat :=
  if w = true then (if p.writers = 0 then (p, 20) else (⟨p.epoch, p.readers, p.writers - 1, p.bytes⟩, 0))
  else (if p.readers = 0 then (p, 20) else (⟨p.epoch, p.readers - 1, p.writers, p.bytes⟩, 0))

set_option maxRecDepth 100000 in
set_option maxHeartbeats 800000 in
theorem side_any (X : Nat) (b : Bool) (w : World) : Calls Tryz.prog 92 #[.pointer (some ⟨X, 0, none⟩), .bool b] w fun r w' => r = .returned (.pointer (some ⟨X, if b = true then 2 else 1, none⟩)) ∧ w = w' := by
  cases b with
  | true =>
    go_enter Tryz.func92, Tryz.ntmps92
    go_wp2
    go_ret
    exact ⟨rfl, rfl⟩
  | false =>
    go_enter Tryz.func92, Tryz.ntmps92
    go_wp2
    go_ret
    exact ⟨rfl, rfl⟩

/-- A cell of the call's own, as a block. -/
def Box (w : World) (b : Nat) (T : TypeId) (v : Value) : Prop := w.heap[b]? = some (.cells #[v] T (0, 0))
theorem one_kept {W : World} {X i : Nat} {v : Value} {ex : Nat → Prop} : Kept (fun k => k = X ∨ ex k) W (W.setCell ⟨X, i, none⟩ v) := Kept.of_grown (grown_setCell _ _ _ _) _ (fun k hk => by cases hk; exact .inl rfl)

set_option maxRecDepth 100000 in
set_option maxHeartbeats 1600000 in
theorem join_op (b : Bool) (jb : Nat) (w : World) (hj : Box w jb 4 (.bool b)) : POp 91 #[.pointer (some ⟨jb, 0, none⟩)] (opJoin b) (fun k => k = jb) w (fun _ _ => True) := by
  intro W X p hck hX hnX hW
  have hjW : W.cell? ⟨jb, 0, none⟩ = some (.bool b) := cell_of_heap ((hW jb rfl).trans hj) 0
  obtain ⟨⟨_, _⟩, hre, hwr, _, _⟩ := checkP_ok hck
  obtain ⟨ep, re, wr, by_⟩ := p
  dsimp only at *
  have c1 : W.cell? ⟨X, 1, none⟩ = some (.int .i64 re) := cell_of_heap hX 1
  have c2 : W.cell? ⟨X, 2, none⟩ = some (.int .i64 wr) := cell_of_heap hX 2
  have g1 : W.frozen? ⟨X, 1, none⟩ = false := frozen_of_heap hX 1
  have g2 : W.frozen? ⟨X, 2, none⟩ = false := frozen_of_heap hX 2
  have HX := Lib.hid hX; clear hX hck hj hW
  show Calls Tryz.prog _ #[.pointer (some ⟨X, 0, none⟩), .pointer (some ⟨jb, 0, none⟩)] W _
  cases b with
  | true =>
    by_cases h0 : wr = 0
    · have he : Hid (opJoin true ⟨ep, re, wr, by_⟩ = (⟨ep, re, wr, by_⟩, 20)) := by show _ = _; simp [opJoin, h0]
      subst h0
      go_enter Tryz.func91, Tryz.ntmps91
      go_wp2_with fail
      refine (side_any X true _).mono ?_
      rintro r w1 ⟨rfl, rfl⟩
      go_wp2
      go_ret
      rw [he.out]
      exact ⟨rfl, Kept.refl _ _, fun h => by cases h⟩
    · have h0' : (wr == 0) = false := beq_eq_false_iff_ne.2 h0
      by_cases h1 : wr = 64
      · have he : Hid (opJoin true ⟨ep, re, wr, by_⟩ = (⟨ep, re, wr, by_⟩, 9)) := by show _ = _; simp [opJoin, h1]
        subst h1
        go_enter Tryz.func91, Tryz.ntmps91
        go_wp2_with fail
        refine (side_any X true _).mono ?_
        rintro r w1 ⟨rfl, rfl⟩
        go_wp2
        go_ret
        rw [he.out]
        exact ⟨rfl, Kept.refl _ _, fun h => by cases h⟩
      · have he : Hid (opJoin true ⟨ep, re, wr, by_⟩ = (⟨ep, re, wr + 1, by_⟩, 0)) := by show _ = _; simp [opJoin, h0, h1]
        have h1' : (wr == 64) = false := beq_eq_false_iff_ne.2 h1
        clear h0 h1
        go_enter Tryz.func91, Tryz.ntmps91
        go_wp2_with fail
        refine (side_any X true _).mono ?_
        rintro r w1 ⟨rfl, rfl⟩
        go_wp2
        go_ret
        rw [he.out]
        exact ⟨rfl, one_kept, fun _ => ⟨heap_setCell_same HX.out 2 _, trivial⟩⟩
  | false =>
    by_cases h0 : re = 0
    · have he : Hid (opJoin false ⟨ep, re, wr, by_⟩ = (⟨ep, re, wr, by_⟩, 20)) := by show _ = _; simp [opJoin, h0]
      subst h0
      go_enter Tryz.func91, Tryz.ntmps91
      go_wp2_with fail
      refine (side_any X false _).mono ?_
      rintro r w1 ⟨rfl, rfl⟩
      go_wp2
      go_ret
      rw [he.out]
      exact ⟨rfl, Kept.refl _ _, fun h => by cases h⟩
    · have h0' : (re == 0) = false := beq_eq_false_iff_ne.2 h0
      by_cases h1 : re = 64
      · have he : Hid (opJoin false ⟨ep, re, wr, by_⟩ = (⟨ep, re, wr, by_⟩, 9)) := by show _ = _; simp [opJoin, h1]
        subst h1
        go_enter Tryz.func91, Tryz.ntmps91
        go_wp2_with fail
        refine (side_any X false _).mono ?_
        rintro r w1 ⟨rfl, rfl⟩
        go_wp2
        go_ret
        rw [he.out]
        exact ⟨rfl, Kept.refl _ _, fun h => by cases h⟩
      · have he : Hid (opJoin false ⟨ep, re, wr, by_⟩ = (⟨ep, re + 1, wr, by_⟩, 0)) := by show _ = _; simp [opJoin, h0, h1]
        have h1' : (re == 64) = false := beq_eq_false_iff_ne.2 h1
        clear h0 h1
        go_enter Tryz.func91, Tryz.ntmps91
        go_wp2_with fail
        refine (side_any X false _).mono ?_
        rintro r w1 ⟨rfl, rfl⟩
        go_wp2
        go_ret
        rw [he.out]
        exact ⟨rfl, one_kept, fun _ => ⟨heap_setCell_same HX.out 1 _, trivial⟩⟩

set_option maxRecDepth 100000 in
set_option maxHeartbeats 1600000 in
theorem leave_op (b : Bool) (jb : Nat) (w : World) (hj : Box w jb 4 (.bool b)) : POp 93 #[.pointer (some ⟨jb, 0, none⟩)] (opLeave b) (fun k => k = jb) w (fun _ _ => True) := by
  intro W X p hck hX hnX hW
  have hjW : W.cell? ⟨jb, 0, none⟩ = some (.bool b) := cell_of_heap ((hW jb rfl).trans hj) 0
  obtain ⟨⟨_, _⟩, hre, hwr, _, _⟩ := checkP_ok hck
  obtain ⟨ep, re, wr, by_⟩ := p
  dsimp only at *
  have c1 : W.cell? ⟨X, 1, none⟩ = some (.int .i64 re) := cell_of_heap hX 1
  have c2 : W.cell? ⟨X, 2, none⟩ = some (.int .i64 wr) := cell_of_heap hX 2
  have g1 : W.frozen? ⟨X, 1, none⟩ = false := frozen_of_heap hX 1
  have g2 : W.frozen? ⟨X, 2, none⟩ = false := frozen_of_heap hX 2
  have HX := Lib.hid hX; clear hX hck hj hW
  show Calls Tryz.prog _ #[.pointer (some ⟨X, 0, none⟩), .pointer (some ⟨jb, 0, none⟩)] W _
  cases b with
  | true =>
    by_cases h0 : wr = 0
    · have he : Hid (opLeave true ⟨ep, re, wr, by_⟩ = (⟨ep, re, wr, by_⟩, 20)) := by show _ = _; simp [opLeave, h0]
      subst h0
      go_enter Tryz.func93, Tryz.ntmps93
      go_wp2_with fail
      refine (side_any X true _).mono ?_
      rintro r w1 ⟨rfl, rfl⟩
      go_wp2
      go_ret
      rw [he.out]
      exact ⟨rfl, Kept.refl _ _, fun h => by cases h⟩
    · have h0' : (wr == 0) = false := beq_eq_false_iff_ne.2 h0
      have he : Hid (opLeave true ⟨ep, re, wr, by_⟩ = (⟨ep, re, wr - 1, by_⟩, 0)) := by show _ = _; simp [opLeave, h0]
      clear h0
      go_enter Tryz.func93, Tryz.ntmps93
      go_wp2_with fail
      refine (side_any X true _).mono ?_
      rintro r w1 ⟨rfl, rfl⟩
      go_wp2
      go_ret
      rw [he.out]
      exact ⟨rfl, one_kept, fun _ => ⟨heap_setCell_same HX.out 2 _, trivial⟩⟩
  | false =>
    by_cases h0 : re = 0
    · have he : Hid (opLeave false ⟨ep, re, wr, by_⟩ = (⟨ep, re, wr, by_⟩, 20)) := by show _ = _; simp [opLeave, h0]
      subst h0
      go_enter Tryz.func93, Tryz.ntmps93
      go_wp2_with fail
      refine (side_any X false _).mono ?_
      rintro r w1 ⟨rfl, rfl⟩
      go_wp2
      go_ret
      rw [he.out]
      exact ⟨rfl, Kept.refl _ _, fun h => by cases h⟩
    · have h0' : (re == 0) = false := beq_eq_false_iff_ne.2 h0
      have he : Hid (opLeave false ⟨ep, re, wr, by_⟩ = (⟨ep, re - 1, wr, by_⟩, 0)) := by show _ = _; simp [opLeave, h0]
      clear h0
      go_enter Tryz.func93, Tryz.ntmps93
      go_wp2_with fail
      refine (side_any X false _).mono ?_
      rintro r w1 ⟨rfl, rfl⟩
      go_wp2
      go_ret
      rw [he.out]
      exact ⟨rfl, one_kept, fun _ => ⟨heap_setCell_same HX.out 1 _, trivial⟩⟩

theorem two_kept {W W2 : World} {X mb bb i : Nat} {v u : Value} (hB : Below W.heap.size W W2) : Kept (fun k => k = X ∨ k = mb ∨ k = bb) W ((W2.setCell ⟨bb, 0, none⟩ v).setCell ⟨X, i, none⟩ u).drew := by
  have h1 := ((Kept.of_below hB (fun k => k = X ∨ k = mb ∨ k = bb)).trans (Kept.of_grown (grown_setCell W2 bb 0 v) (fun k => k = X ∨ k = mb ∨ k = bb) (fun k hk => by cases hk; exact .inr (.inr rfl))) (fun _ _ h => h)).trans
    (Kept.of_grown (grown_setCell (W2.setCell ⟨bb, 0, none⟩ v) X i u) (fun k => k = X ∨ k = mb ∨ k = bb) (fun k hk => by cases hk; exact .inl rfl)) (fun _ _ h => h)
  exact ⟨h1.os, h1.tape, h1.output, h1.size, h1.block⟩
theorem two_first {W : World} {X bb i : Nat} {c : Array Value} {T : TypeId} {v u : Value} (hX : W.heap[X]? = some (.cells c T (0, 0))) (hne : X ≠ bb) : ((W.setCell ⟨bb, 0, none⟩ v).setCell ⟨X, i, none⟩ u).drew.heap[X]? = some (.cells (c.setIfInBounds i u) T (0, 0)) :=
  heap_setCell_same ((Below.heap_setCell _ _ _ _ hne).trans hX) i u
theorem two_second {W : World} {X bb i : Nat} {T : TypeId} {v0 v u : Value} (hb : W.heap[bb]? = some (.cells #[v0] T (0, 0))) (hne : bb ≠ X) : ((W.setCell ⟨bb, 0, none⟩ v).setCell ⟨X, i, none⟩ u).drew.heap[bb]? = some (.cells #[v] T (0, 0)) :=
  (Below.heap_setCell _ _ _ _ hne).trans (heap_setCell_same hb 0 v)

set_option maxRecDepth 100000 in
set_option maxHeartbeats 1600000 in
theorem read_op (most : Int) (mb bb : Nat) (w : World) (hne : mb ≠ bb) (hmb : Box w mb 3 (.int .i64 most)) (hbb : Box w bb 9 (.string ⟨#[]⟩)) (hmost : most ≤ 9223372036854775807) :
    POp 87 #[.pointer (some ⟨mb, 0, none⟩), .pointer (some ⟨bb, 0, none⟩)] (opRead most) (fun k => k = mb ∨ k = bb) w (fun p W => Box W bb 9 (.string (readB most p))) := by
  intro W X p hck hX hnX hW
  have hm : W.cell? ⟨mb, 0, none⟩ = some (.int .i64 most) := cell_of_heap ((hW mb (.inl rfl)).trans hmb) 0
  have hbW : W.heap[bb]? = some (.cells #[.string ⟨#[]⟩] 9 (0, 0)) := (hW bb (.inr rfl)).trans hbb
  have hb0 : W.cell? ⟨bb, 0, none⟩ = some (.string ⟨#[]⟩) := cell_of_heap hbW 0
  have hbf : W.frozen? ⟨bb, 0, none⟩ = false := frozen_of_heap hbW 0
  obtain ⟨_, _, hwr, _, hby⟩ := checkP_ok hck
  have hXb : X ≠ bb := fun e => hnX (.inr e)
  have hbX : bb ≠ X := Ne.symm hXb
  have hXm : X ≠ mb := fun e => hnX (.inl e)
  have hmX : mb ≠ X := Ne.symm hXm
  have hbm : bb ≠ mb := Ne.symm hne
  obtain ⟨ep, re, wr, by_⟩ := p
  dsimp only at *
  have c2 : W.cell? ⟨X, 2, none⟩ = some (.int .i64 wr) := cell_of_heap hX 2
  have c3 : W.cell? ⟨X, 3, none⟩ = some (.string by_) := cell_of_heap hX 3
  have g3 : W.frozen? ⟨X, 3, none⟩ = false := frozen_of_heap hX 3
  have HX := Lib.hid hX; clear hX hck hmb hbb hW hnX
  have HbW := Lib.hid hbW; clear hbW
  show Calls Tryz.prog _ #[.pointer (some ⟨X, 0, none⟩), .pointer (some ⟨mb, 0, none⟩), .pointer (some ⟨bb, 0, none⟩)] W _
  by_cases h1 : most < 0
  · have he : Hid (opRead most ⟨ep, re, wr, by_⟩ = (⟨ep, re, wr, by_⟩, 2)) := by show _ = _; simp [opRead, h1]
    go_enter Tryz.func87, Tryz.ntmps87
    go_wp2
    go_ret
    rw [he.out]
    exact ⟨rfl, Kept.refl _ _, fun h => by cases h⟩
  · by_cases h2 : 0 < most ∧ by_.size = 0 ∧ 0 < wr
    · have he : Hid (opRead most ⟨ep, re, wr, by_⟩ = (⟨ep, re, wr, by_⟩, 19)) := by show _ = _; simp [opRead, h1, h2]
      obtain ⟨h2, h3, h4⟩ := h2
      have h3' : by_.toList.isEmpty = true := by rw [toList_empty]; simp [h3]
      go_enter Tryz.func87, Tryz.ntmps87
      go_wp2
      go_ret
      rw [he.out]
      exact ⟨rfl, Kept.refl _ _, fun h => by cases h⟩
    · have he : Hid (opRead most ⟨ep, re, wr, by_⟩ = (⟨ep, re, wr, by_.extract (min most.toNat by_.size) by_.size⟩, 0)) := by show _ = _; simp only [opRead]; rw [if_neg h1, if_neg h2]
      obtain ⟨mn, hmn⟩ := Int.eq_ofNat_of_zero_le (by omega : 0 ≤ most)
      subst hmn
      have hways : (¬ (0 : Int) < (mn : Int)) ∨ ((0 : Int) < (mn : Int) ∧ by_.toList.isEmpty = false) ∨ ((0 : Int) < (mn : Int) ∧ by_.toList.isEmpty = true ∧ ¬ 0 < wr) := by
        by_cases ha : (0 : Int) < (mn : Int)
        · by_cases hb : by_.size = 0
          · exact .inr (.inr ⟨ha, by rw [toList_empty]; simp [hb], fun hc => h2 ⟨ha, hb, hc⟩⟩)
          · exact .inr (.inl ⟨ha, by rw [toList_empty]; simp [hb]⟩)
        · exact .inl ha
      clear h2
      have hmin2 : min (mn : Int).toNat by_.size = min mn by_.size := by simp
      have Hrb : Hid (readB (mn : Int) ⟨ep, re, wr, by_⟩ = by_.extract 0 (min mn by_.size)) := by show _ = _; unfold readB; rw [hmin2]
      rw [hmin2] at he
      clear hmin2
      rcases hways with h6 | ⟨h6, h7⟩ | ⟨h6, h7, h8⟩
      all_goals
        go_enter Tryz.func87, Tryz.ntmps87
        go_upto_region 5 with fail
        go_cut [5] (fun v wx => v = .int .i64 ((min mn by_.size : Nat) : Int) ∧ ∃ j, wx = W.drewN j)
        case first =>
          by_cases h5 : mn ≤ by_.size
          · have hmm : min mn by_.size = mn := by omega
            have Hmm := Lib.hid hmm; clear hmm
            go_quiet (fail)
            go_wp2
            all_goals
              go_meet
              rw [Hmm.out]
              exact ⟨rfl, _, rfl⟩
          · have hmm : min mn by_.size = by_.size := by omega
            have Hmm := Lib.hid hmm; clear hmm
            go_quiet (fail)
            go_wp2
            all_goals
              go_meet
              rw [Hmm.out]
              exact ⟨rfl, _, rfl⟩
        case rest =>
          obtain ⟨rfl, j, rfl⟩ := hcut
          have hm2 : (W.drewN j).cell? ⟨mb, 0, none⟩ = some (.int .i64 mn) := hm
          have hb02 : (W.drewN j).cell? ⟨bb, 0, none⟩ = some (.string ⟨#[]⟩) := hb0
          have hbf2 : (W.drewN j).frozen? ⟨bb, 0, none⟩ = false := hbf
          have c32 : (W.drewN j).cell? ⟨X, 3, none⟩ = some (.string by_) := c3
          have g32 : (W.drewN j).frozen? ⟨X, 3, none⟩ = false := g3
          have HX2 : Hid ((W.drewN j).heap[X]? = some (.cells (pCells ⟨ep, re, wr, by_⟩) 66 (0, 0))) := HX.out
          have HbW2 : Hid ((W.drewN j).heap[bb]? = some (.cells #[.string ⟨#[]⟩] 9 (0, 0))) := HbW.out
          have HBd : Hid (Below W.heap.size W (W.drewN j)) := below_drewN (Below.refl _ _) _
          clear hm hb0 hbf c3 g3 HX HbW c2
          have hlen : min mn by_.size ≤ by_.size := Nat.min_le_right _ _
          generalize hM : min mn by_.size = M at *
          generalize W.drewN j = W2 at *
          go_wp2
          go_region
          go_wp2
          go_ret
          rw [he.out]
          exact ⟨rfl, two_kept HBd.out, fun _ => ⟨two_first HX2.out hXb, (two_second HbW2.out hbX).trans (by rw [Hrb.out])⟩⟩

end Go.Proofs.YtemmeopaihmlcaaGreatDoor
