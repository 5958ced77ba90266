/- pipe: names; check, Get. pipe: Get. -/
import Derived.Test.YtemmeopaihmlcaaGreatDoorPipB
import Derived.Test.YtemmeopaihmlcaaGreatDoorViewH
import Derived.Test.YtemmeopaihmlcaaGreatDoorViewC
namespace Go.Proofs.YtemmeopaihmlcaaGreatDoor
open Go.RowKit
attribute [local go_sem ↓] Go.wp_at_zero Go.wp_at_succ

theorem second_new (w : World) (o1 o2 : Obj) : ((w.alloc o1).alloc o2).heap[w.heap.size + 1]? = some o2 := by have := World.alloc_heap_new (w.alloc o1) o2; rwa [World.size_alloc] at this
def ofPipe (m : ByteArray) (k : Int) : NameT := ⟨11, m, k, 0, ⟨#[]⟩⟩

set_option maxRecDepth 100000 in
set_option maxHeartbeats 2000000 in
theorem checkPipe_any (m : ByteArray) (n : Int) (w : World) (hu : Usages w) (hm : validB m = true) (hmz : m.size ≤ 70368744177664) (h0 : 0 ≤ n) (h1 : n ≤ 1073741824) :
    Calls Tryz.prog 50 #[.agg #[.int .i64 11, .string m, .int .i64 n, .int .i64 0, .string ⟨#[]⟩]] w fun r w' => r = .returned (.int .i64 0) ∧ Below w.heap.size w w' := by
  have hp := hu.pos
  obtain ⟨u0, u1, u2, u3, u4, u5⟩ := hu 11 (by decide)
  have v0 : w.cell? ⟨0, 66, none⟩ = some (.string ⟨#[112, 105, 112, 101]⟩) := u0
  have v1 : w.cell? ⟨0, 67, none⟩ = some (.bool true) := u1
  have v2 : w.cell? ⟨0, 68, none⟩ = some (.bool true) := u2
  have v3 : w.cell? ⟨0, 69, none⟩ = some (.bool false) := u3
  have v4 : w.cell? ⟨0, 70, none⟩ = some (.bool false) := u4
  have v5 : w.cell? ⟨0, 71, none⟩ = some (.int .i64 0) := u5
  clear u0 u1 u2 u3 u4 u5
  have Hu := Lib.hid hu; clear hu
  go_enter Tryz.func50, Tryz.ntmps50
  go_wp2_with fail
  refine (isKind_any 11 _ (by decide) (by decide)).mono ?_
  rintro e w1 ⟨rfl, rfl⟩
  go_wp2_with fail
  refine (valid_is m _ hmz hm _).mono ?_
  rintro e w1 ⟨rfl, hb1⟩
  have hn1 := (hb1.block w.heap.size (by simp; omega)).trans ((Below.heap_alloc _ _ _ (by simp)).trans (World.alloc_heap_new w _))
  have hu1 := (hb1.block (w.heap.size + 1) (by simp)).trans (second_new w _ _)
  have q2 : w1.cell? ⟨w.heap.size, 2, none⟩ = some (.int .i64 n) := cell_of_heap hn1 2
  have t2 : w1.cell? ⟨w.heap.size + 1, 2, none⟩ = some (.bool true) := cell_of_heap hu1 2
  have t3 : w1.cell? ⟨w.heap.size + 1, 3, none⟩ = some (.bool false) := cell_of_heap hu1 3
  have t4 : w1.cell? ⟨w.heap.size + 1, 4, none⟩ = some (.bool false) := cell_of_heap hu1 4
  have HB1 : Hid (Below w.heap.size w w1) := (((Below.refl _ _).alloc (Nat.le_refl _) _).alloc (by simp) _).trans (hb1.mono (by simp; omega))
  clear hb1 hn1 hu1 v0 v1 v2 v3 v4 v5
  go_wp2_with fail
  refine (oWithin_any n 1073741824 _).mono ?_
  rintro e w2 ⟨rfl, rfl⟩
  rw [show decide (0 ≤ n ∧ n ≤ 1073741824) = true by simp [h0, h1]]
  go_wp2
  go_ret
  exact ⟨rfl, HB1.out⟩
theorem nameOk_pipe {m : ByteArray} {k : Int} (hm : validB m = true) (hz : m.size ≤ 70368744177664) (h0 : 0 ≤ k) (h1 : k ≤ 1073741824) : NameOk (ofPipe m k) := ⟨⟨hz, emp_le⟩, fun W hu => checkPipe_any m k W hu hm hz h0 h1⟩

set_option maxRecDepth 100000 in
set_option maxHeartbeats 1000000 in
theorem ofBirth_any (kind : Int) (m : ByteArray) (k : Int) (w : World) : Calls Tryz.prog 78 #[.int .i64 kind, .agg #[.string m, .int .i64 k]] w fun r w' => r = .returned (.agg #[.int .i64 kind, .string m, .int .i64 k, .int .i64 0, .string ⟨#[]⟩]) ∧ Below w.heap.size w w' := by
  go_enter Tryz.func78, Tryz.ntmps78
  go_wp2
  refine bodyPost_ret (v := .agg #[.int .i64 kind, .string m, .int .i64 k, .int .i64 0, .string ⟨#[]⟩]) (by simp [results, Tryz.results78, go_sem]) rfl ⟨rfl, ?_⟩
  exact ((Below.refl _ _).alloc (Nat.le_refl _) _).alloc (by simp) _
set_option maxRecDepth 100000 in
set_option maxHeartbeats 1000000 in
theorem ofPipe_any (m : ByteArray) (k : Int) (w : World) : Calls Tryz.prog 27 #[.agg #[.string m, .int .i64 k]] w fun r w' => r = .returned (.agg #[.int .i64 11, .string m, .int .i64 k, .int .i64 0, .string ⟨#[]⟩]) ∧ Below w.heap.size w w' := by
  go_enter Tryz.func27, Tryz.ntmps27
  go_wp2_with fail
  refine (ofBirth_any 11 m k _).mono ?_
  rintro e w1 ⟨rfl, hb1⟩
  have hR := (hb1.block (w.heap.size + 1) (by simp)).trans (second_new w _ _)
  have r0 : w1.cell? ⟨w.heap.size + 1, 0, none⟩ = some (.int .i64 0) := cell_of_heap hR 0
  have r1 : w1.cell? ⟨w.heap.size + 1, 1, none⟩ = some (.string ⟨#[]⟩) := cell_of_heap hR 1
  have r2 : w1.cell? ⟨w.heap.size + 1, 2, none⟩ = some (.int .i64 0) := cell_of_heap hR 2
  have r3 : w1.cell? ⟨w.heap.size + 1, 3, none⟩ = some (.int .i64 0) := cell_of_heap hR 3
  have r4 : w1.cell? ⟨w.heap.size + 1, 4, none⟩ = some (.string ⟨#[]⟩) := cell_of_heap hR 4
  have g0 : w1.frozen? ⟨w.heap.size + 1, 0, none⟩ = false := frozen_of_heap hR 0
  have g1 : w1.frozen? ⟨w.heap.size + 1, 1, none⟩ = false := frozen_of_heap hR 1
  have g2 : w1.frozen? ⟨w.heap.size + 1, 2, none⟩ = false := frozen_of_heap hR 2
  have g3 : w1.frozen? ⟨w.heap.size + 1, 3, none⟩ = false := frozen_of_heap hR 3
  have g4 : w1.frozen? ⟨w.heap.size + 1, 4, none⟩ = false := frozen_of_heap hR 4
  have HB1 : Hid (Below w.heap.size w w1) := (((Below.refl _ _).alloc (Nat.le_refl _) _).alloc (by simp) _).trans (hb1.mono (by simp; omega))
  clear hb1 hR
  go_wp2
  refine bodyPost_ret (v := .agg #[.int .i64 11, .string m, .int .i64 k, .int .i64 0, .string ⟨#[]⟩]) (by simp [results, Tryz.results27, go_sem, r0, r1, r2, r3, r4]) rfl ⟨rfl, ?_⟩
  exact (((((HB1.out.setCell (by simp) _).setCell (by simp) _).setCell (by simp) _).setCell (by simp) _).setCell (by simp) _)

def birthB (m : ByteArray) (k : Int) : Nat := if validB m = false then 12 else if 0 ≤ k ∧ k ≤ 1073741824 then 0 else 2
set_option maxRecDepth 100000 in
set_option maxHeartbeats 1000000 in
theorem birth_any (m : ByteArray) (k : Int) (w : World) (hmz : m.size ≤ 70368744177664) : Calls Tryz.prog 33 #[.agg #[.string m, .int .i64 k]] w fun r w' => r = .returned (.int .i64 (birthB m k)) ∧ Below w.heap.size w w' := by
  have Ha : Hid (∀ o, Below w.heap.size w (w.alloc o)) := fun o => (Below.refl _ _).alloc (Nat.le_refl _) _
  cases h1 : validB m with
  | false =>
    have he : Hid (birthB m k = 12) := by show _ = _; simp [birthB, h1]
    go_enter Tryz.func33, Tryz.ntmps33
    go_wp2_with fail
    refine (valid_is m _ hmz h1 _).mono ?_
    rintro e w1 ⟨rfl, hb1⟩
    have HB1 : Hid (Below w.heap.size w w1) := (Ha.out _).trans (hb1.mono (by simp))
    clear hb1
    go_wp2
    go_ret
    rw [he.out]
    exact ⟨rfl, HB1.out⟩
  | true =>
    go_enter Tryz.func33, Tryz.ntmps33
    go_wp2_with fail
    refine (valid_is m _ hmz h1 _).mono ?_
    rintro e w1 ⟨rfl, hb1⟩
    have HB1 : Hid (Below w.heap.size w w1) := (Ha.out _).trans (hb1.mono (by simp))
    have c1 : w1.cell? ⟨w.heap.size, 1, none⟩ = some (.int .i64 k) := ((bcell hb1).1 _ _ (by simp)).trans (cell_of_heap (World.alloc_heap_new w _) 1)
    clear hb1
    go_wp2_with fail
    refine (oWithin_any k 1073741824 _).mono ?_
    rintro e w2 ⟨rfl, rfl⟩
    by_cases h2 : 0 ≤ k ∧ k ≤ 1073741824
    · have he : Hid (birthB m k = 0) := by show _ = _; simp [birthB, h1, h2]
      rw [decide_eq_true h2]
      go_wp2
      go_ret
      rw [he.out]
      exact ⟨rfl, HB1.out⟩
    · have he : Hid (birthB m k = 2) := by show _ = _; simp [birthB, h1, h2]
      rw [decide_eq_false h2]
      clear h2
      go_wp2
      go_ret
      rw [he.out]
      exact ⟨rfl, HB1.out⟩

/-- What check answers where there is a view. -/
def pArgs (m : ByteArray) (k e : Int) : Nat := if birthB m k ≠ 0 then birthB m k else if pEpochB e = false then 2 else 0
set_option maxRecDepth 100000 in
set_option maxHeartbeats 1000000 in
theorem pArgs_any (b : Nat) (m : ByteArray) (k e : Int) (q : Nat) (hq : pArgs m k e = q) (w : World) (hmz : m.size ≤ 70368744177664) : Calls Tryz.prog 81 #[.pointer (some ⟨b, 0, none⟩), .agg #[.string m, .int .i64 k], .int .i64 e] w fun r w' => r = .returned (.int .i64 q) ∧ Below w.heap.size w w' := by
  subst hq
  have Ha : Hid (∀ o, Below w.heap.size w (w.alloc o)) := fun o => (Below.refl _ _).alloc (Nat.le_refl _) _
  have Hb : Hid (∀ o, Calls Tryz.prog 33 #[.agg #[.string m, .int .i64 k]] (w.alloc o) fun r w' => r = .returned (.int .i64 (birthB m k)) ∧ Below (w.alloc o).heap.size (w.alloc o) w') := fun o => birth_any m k _ hmz
  have Hpa : Hid (pArgs m k e = if birthB m k ≠ 0 then birthB m k else if pEpochB e = false then 2 else 0) := rfl
  generalize birthB m k = q at *
  by_cases h0 : q = 0
  · subst h0
    cases h2 : pEpochB e with
    | false =>
      have he : Hid (pArgs m k e = 2) := by show _ = _; rw [Hpa.out]; simp [h2]
      go_enter Tryz.func81, Tryz.ntmps81
      go_wp2_with fail
      refine (Hb.out _).mono ?_
      rintro e1 w1 ⟨rfl, hb1⟩
      have HB1 : Hid (Below w.heap.size w w1) := (Ha.out _).trans (hb1.mono (by simp))
      clear hb1
      go_wp2_with fail
      refine (pEpoch_is e _ h2 _).mono ?_
      rintro e1 w2 ⟨rfl, rfl⟩
      go_wp2
      go_ret
      rw [he.out]
      exact ⟨rfl, HB1.out⟩
    | true =>
      have he : Hid (pArgs m k e = 0) := by show _ = _; rw [Hpa.out]; simp [h2]
      go_enter Tryz.func81, Tryz.ntmps81
      go_wp2_with fail
      refine (Hb.out _).mono ?_
      rintro e1 w1 ⟨rfl, hb1⟩
      have HB1 : Hid (Below w.heap.size w w1) := (Ha.out _).trans (hb1.mono (by simp))
      clear hb1
      go_wp2_with fail
      refine (pEpoch_is e _ h2 _).mono ?_
      rintro e1 w2 ⟨rfl, rfl⟩
      go_wp2
      go_ret
      rw [he.out]
      exact ⟨rfl, HB1.out⟩
  · have he : Hid (pArgs m k e = q) := by show _ = _; rw [Hpa.out]; simp [h0]
    have h0' : ((q : Int) != 0) = true := bne_iff_ne.2 (by omega)
    clear h0
    go_enter Tryz.func81, Tryz.ntmps81
    go_wp2_with fail
    refine (Hb.out _).mono ?_
    rintro e1 w1 ⟨rfl, hb1⟩
    have HB1 : Hid (Below w.heap.size w w1) := (Ha.out _).trans (hb1.mono (by simp))
    clear hb1
    go_wp2
    go_ret
    rw [he.out]
    exact ⟨rfl, HB1.out⟩
theorem pArgs_ok {m : ByteArray} {k e : Int} (h : pArgs m k e = 0) : validB m = true ∧ (0 ≤ k ∧ k ≤ 1073741824) ∧ pEpochB e = true := by
  unfold pArgs at h
  split at h
  · contradiction
  rename_i h1
  split at h
  · cases h
  rename_i h2
  have h1' : birthB m k = 0 := by simpa using h1
  unfold birthB at h1'
  split at h1'
  · cases h1'
  rename_i h3
  split at h1'
  · rename_i h4
    exact ⟨by simpa using h3, h4, by simpa using h2⟩
  · cases h1'

end Go.Proofs.YtemmeopaihmlcaaGreatDoor

namespace Go.Proofs.YtemmeopaihmlcaaGreatDoor
open Go.RowKit
attribute [local go_sem ↓] Go.wp_at_zero Go.wp_at_succ

def ofPV (v : ByteArray × Bool) (e : Int) : PipeT × Nat := if v.2 = false then (zeroP, 8) else if (decP_ v.1).2 ≠ 0 ∨ (decP_ v.1).1.epoch ≠ e then (zeroP, 8) else ((decP_ v.1).1, 0)
theorem ofPV_true (s : ByteArray) (e : Int) : ofPV (s, true) e = if (decP_ s).2 ≠ 0 ∨ (decP_ s).1.epoch ≠ e then (zeroP, 8) else ((decP_ s).1, 0) := by
  unfold ofPV
  rw [if_neg (by simp)]
/-- What Get answers. -/
def pGet (V : AV) (m : ByteArray) (k e : Int) : PipeT × Nat := if pArgs m k e ≠ 0 then (zeroP, pArgs m k e) else ofPV (avGet V (ofPipe m k)) e
def pSeen (V : AV) (m : ByteArray) (k e : Int) : AV := if pArgs m k e ≠ 0 then V else avSeen V (ofPipe m k)
def PGetPost (h : VH) (w : World) (V : AV) (p : PipeT × Nat) (r : Ending) (w' : World) : Prop := ∃ h', r = .returned (.tuple #[pipeV p.1, .int .i64 p.2]) ∧ VQ h (fun _ => False) w V w' h'

theorem pget_end {h : VH} {w : World} {V V' : AV} {w1 X : World} {h' : VH} {p : PipeT × Nat} {R : Nat} (hbs : h.bs ≤ w.heap.size) (q : VQ h (fun _ => False) w V' w1 h') (hR : w.heap.size ≤ R ∧ ¬ h'.fp R) (hg : w1.grownBy X (some R)) (_hv : ViewAt w h V) :
    PGetPost h w V' p (.returned (.tuple #[pipeV p.1, .int .i64 p.2])) X :=
  ⟨h', rfl, q.stores (S := fun k => k = R) (Kept.of_grown hg _ (fun k hk => by cases hk; rfl)) (fun k _ hk => by cases hk; exact ⟨.inl hR.1, hR.2, Nat.le_trans hbs hR.1⟩)⟩

theorem pSet4_alloc {w : World} {R : Nat} {p0 p1 p2 p3 : Value} {T : TypeId} (hR : w.heap[R]? = some (.cells #[p0, p1, p2, p3] T (0, 0))) (a b c d : Value) (o : Obj) (j : Nat) :
    (((((w.setCell ⟨R, 0, none⟩ a).setCell ⟨R, 1, none⟩ b).setCell ⟨R, 2, none⟩ c).setCell ⟨R, 3, none⟩ d).alloc o).cell? ⟨R, j, none⟩ = (#[a, b, c, d] : Array Value)[j]? := by
  have h1 := heap_setCell_same (heap_setCell_same (heap_setCell_same (heap_setCell_same hR 0 a) 1 b) 2 c) 3 d
  have h2 := (Below.heap_alloc ((((w.setCell ⟨R, 0, none⟩ a).setCell ⟨R, 1, none⟩ b).setCell ⟨R, 2, none⟩ c).setCell ⟨R, 3, none⟩ d) o R (lt_of_heap h1)).trans h1
  exact cell_of_heap h2 j
theorem pGrown_set4_alloc (w : World) (R : Nat) (a b c d : Value) (o : Obj) : w.grownBy (((((w.setCell ⟨R, 0, none⟩ a).setCell ⟨R, 1, none⟩ b).setCell ⟨R, 2, none⟩ c).setCell ⟨R, 3, none⟩ d).alloc o) (some R) :=
  grown_trans (pGrown_set4 w R a b c d) (World.grownBy_alloc _ _ _)

set_option maxRecDepth 100000 in
set_option maxHeartbeats 800000 in
theorem pGet_any (h : VH) (V : AV) (m : ByteArray) (k e : Int) (w : World) (hv : ViewAt w h V) (hmz : m.size ≤ 70368744177664) (hsz : (avGet V (ofPipe m k)).1.size ≤ 35184372088832) :
    Calls Tryz.prog 30 #[.pointer (some ⟨h.b, 0, none⟩), .agg #[.string m, .int .i64 k], .int .i64 e] w (PGetPost h w (pSeen V m k e) (pGet V m k e)) := by
  have Hv := Lib.hid hv; clear hv
  have Hsz := Lib.hid hsz; clear hsz
  have Ha : Hid (∀ o o', Below w.heap.size w ((w.alloc o).alloc o')) := fun o o' => ((Below.refl _ _).alloc (Nat.le_refl _) _).alloc (by simp) _
  obtain ⟨q, hq⟩ : ∃ q, pArgs m k e = q := ⟨_, rfl⟩
  have Hq := Lib.hid hq; clear hq
  have HR0 : Hid (∀ o, ((w.alloc o).alloc (.cells #[.int .i64 0, .int .i64 0, .int .i64 0, .string ⟨#[]⟩] 66)).heap[w.heap.size + 1]? = some (.cells #[.int .i64 0, .int .i64 0, .int .i64 0, .string ⟨#[]⟩] 66 (0, 0))) := fun o => second_new w _ _
  go_enter Tryz.func30, Tryz.ntmps30
  go_wp2_with fail
  refine (pArgs_any h.b m k e q Hq.out _ hmz).mono ?_
  rintro r w1 ⟨rfl, hb1⟩
  have hR1 := (hb1.block (w.heap.size + 1) (by simp)).trans (HR0.out _)
  have hB1 := (hb1.block w.heap.size (by simp; omega)).trans ((Below.heap_alloc _ _ _ (by simp)).trans (World.alloc_heap_new w _))
  have HB1 : Hid (Below w.heap.size w w1) := (Ha.out _ _).trans (hb1.mono (by simp; omega))
  have hsz1 : w.heap.size + 1 < w1.heap.size := lt_of_heap hR1
  clear hb1
  have r0 : w1.cell? ⟨w.heap.size + 1, 0, none⟩ = some (.int .i64 0) := cell_of_heap hR1 0
  have r1 : w1.cell? ⟨w.heap.size + 1, 1, none⟩ = some (.int .i64 0) := cell_of_heap hR1 1
  have r2 : w1.cell? ⟨w.heap.size + 1, 2, none⟩ = some (.int .i64 0) := cell_of_heap hR1 2
  have r3 : w1.cell? ⟨w.heap.size + 1, 3, none⟩ = some (.string ⟨#[]⟩) := cell_of_heap hR1 3
  have g0 : w1.frozen? ⟨w.heap.size + 1, 0, none⟩ = false := frozen_of_heap hR1 0
  have g1 : w1.frozen? ⟨w.heap.size + 1, 1, none⟩ = false := frozen_of_heap hR1 1
  have g2 : w1.frozen? ⟨w.heap.size + 1, 2, none⟩ = false := frozen_of_heap hR1 2
  have g3 : w1.frozen? ⟨w.heap.size + 1, 3, none⟩ = false := frozen_of_heap hR1 3
  have HR1 := Lib.hid hR1; clear hR1
  have b0 : w1.cell? ⟨w.heap.size, 0, none⟩ = some (.string m) := cell_of_heap hB1 0
  have b1 : w1.cell? ⟨w.heap.size, 1, none⟩ = some (.int .i64 k) := cell_of_heap hB1 1
  clear hB1
  have Hf : Hid (w.heap.size ≤ w.heap.size + 1 ∧ ¬ h.fp (w.heap.size + 1)) := ⟨Nat.le_succ _, fun e => by have := Hv.out.fp_lt e; omega⟩
  generalize hRR : w.heap.size + 1 = R at *
  clear hRR
  by_cases h0 : q = 0
  · subst h0
    have hg0 : Hid (pGet V m k e = ofPV (avGet V (ofPipe m k)) e) := by show _ = _; simp [pGet, Hq.out]
    have hs : Hid (pSeen V m k e = avSeen V (ofPipe m k)) := by show _ = _; simp [pSeen, Hq.out]
    have Hn : Hid (NameOk (ofPipe m k)) := nameOk_pipe (pArgs_ok Hq.out).1 hmz (pArgs_ok Hq.out).2.1.1 (pArgs_ok Hq.out).2.1.2
    go_wp2_with fail
    refine (ofPipe_any m k _).mono ?_
    rintro r w2 ⟨rfl, hb2⟩
    have HB2 : Hid (Below w.heap.size w w2) := HB1.out.trans (hb2.mono HB1.out.size)
    have HR2 : Hid (w2.heap[R]? = some (.cells #[.int .i64 0, .int .i64 0, .int .i64 0, .string ⟨#[]⟩] 66 (0, 0))) := (hb2.block _ hsz1).trans HR1.out
    clear hb2 r0 r1 r2 r3 g0 g1 g2 g3 b0 b1
    go_wp2_with fail
    refine (vGet_any h V (ofPipe m k) w2 (Hv.out.later HB2.out) Hn.out).mono ?_
    rintro r w3 ⟨rfl, hp⟩
    obtain ⟨h', hp⟩ := hp.vq
    have HP : Hid (VQ h (fun _ => False) w (avSeen V (ofPipe m k)) w3 h') := VQ.after HB2.out hp
    have hnf : ¬ h'.fp (R) := fun hf => by
      rcases hp.fp _ hf with h1 | h1
      · exact Hf.out.2 h1
      · have := lt_of_heap HR2.out; omega
    have hR3 := (hp.kept.block (R) (lt_of_heap HR2.out) (fun hh => by rcases hh with h1 | h1; exact Hf.out.2 h1; exact h1)).trans HR2.out
    have r0 : w3.cell? ⟨R, 0, none⟩ = some (.int .i64 0) := cell_of_heap hR3 0
    have r1 : w3.cell? ⟨R, 1, none⟩ = some (.int .i64 0) := cell_of_heap hR3 1
    have r2 : w3.cell? ⟨R, 2, none⟩ = some (.int .i64 0) := cell_of_heap hR3 2
    have r3 : w3.cell? ⟨R, 3, none⟩ = some (.string ⟨#[]⟩) := cell_of_heap hR3 3
    have g0 : w3.frozen? ⟨R, 0, none⟩ = false := frozen_of_heap hR3 0
    have g1 : w3.frozen? ⟨R, 1, none⟩ = false := frozen_of_heap hR3 1
    have g2 : w3.frozen? ⟨R, 2, none⟩ = false := frozen_of_heap hR3 2
    have g3 : w3.frozen? ⟨R, 3, none⟩ = false := frozen_of_heap hR3 3
    have HR3 := Lib.hid hR3; clear hR3
    have hsz3 := lt_of_heap HR3.out
    have Hnf : Hid (w.heap.size ≤ R ∧ ¬ h'.fp (R)) := ⟨Hf.out.1, hnf⟩
    clear hp hnf HR2 HB2 Hn HR1 HB1
    generalize hav : avGet V (ofPipe m k) = av at *
    have Hav := Lib.hid hav; clear hav
    obtain ⟨sv, ok⟩ := av
    dsimp only at *
    cases ok with
    | false =>
      have he : Hid (pGet V m k e = (zeroP, 8)) := hg0.out.trans rfl
      go_wp2
      refine bodyPost_ret (v := .tuple #[.agg #[.int .i64 0, .int .i64 0, .int .i64 0, .string ⟨#[]⟩], .int .i64 8]) (by simp [results, Tryz.results30, go_sem, r0, r1, r2, r3]) rfl ?_
      rw [he.out, hs.out]
      exact pget_end (p := (zeroP, 8)) Hv.out.top HP.out Hnf.out (pGrown_set4 _ _ _ _ _ _) Hv.out
    | true =>
      go_wp2_with fail
      refine (pDecode_any sv _ Hsz.out).mono ?_
      rintro r w4 ⟨rfl, hb4⟩
      have HP4 : Hid (VQ h (fun _ => False) w (avSeen V (ofPipe m k)) w4 h') := HP.out.later hb4
      have hR4 := (hb4.block (R) hsz3).trans HR3.out
      clear r0 r1 r2 r3 g0 g1 g2 g3 HP
      have r0 : w4.cell? ⟨R, 0, none⟩ = some (.int .i64 0) := cell_of_heap hR4 0
      have r1 : w4.cell? ⟨R, 1, none⟩ = some (.int .i64 0) := cell_of_heap hR4 1
      have r2 : w4.cell? ⟨R, 2, none⟩ = some (.int .i64 0) := cell_of_heap hR4 2
      have r3 : w4.cell? ⟨R, 3, none⟩ = some (.string ⟨#[]⟩) := cell_of_heap hR4 3
      have g0 : w4.frozen? ⟨R, 0, none⟩ = false := frozen_of_heap hR4 0
      have g1 : w4.frozen? ⟨R, 1, none⟩ = false := frozen_of_heap hR4 1
      have g2 : w4.frozen? ⟨R, 2, none⟩ = false := frozen_of_heap hR4 2
      have g3 : w4.frozen? ⟨R, 3, none⟩ = false := frozen_of_heap hR4 3
      have hne := World.new_ne w4 ⟨R, 0, none⟩ r0
      have HR4 := Lib.hid hR4; clear hR4 hb4
      have Hof : Hid (pGet V m k e = if (decP_ sv).2 ≠ 0 ∨ (decP_ sv).1.epoch ≠ e then (zeroP, 8) else ((decP_ sv).1, 0)) := hg0.out.trans (ofPV_true sv e)
      generalize decP_ sv = d at *
      obtain ⟨⟨ep, re, wr, by_⟩, q⟩ := d
      dsimp only [pipeV] at *
      have hlt4 : R < w4.heap.size := lt_of_heap HR4.out
      clear hsz3 hsz1 hg0 HR3
      by_cases hq : q = 0
      · subst hq
        by_cases hep : ep = e
        · subst hep
          have he : Hid (pGet V m k ep = (⟨ep, re, wr, by_⟩, 0)) := Hof.out.trans (by simp)
          clear Hof
          go_wp2
          have x := pSet4_alloc HR4.out (.int .i64 ep) (.int .i64 re) (.int .i64 wr) (.string by_) (.cells #[.int .i64 ep, .int .i64 re, .int .i64 wr, .string by_] 66)
          have x0 := x 0
          have x1 := x 1
          have x2 := x 2
          have x3 := x 3
          dsimp at x0 x1 x2 x3
          refine bodyPost_ret (v := .tuple #[.agg #[.int .i64 ep, .int .i64 re, .int .i64 wr, .string by_], .int .i64 0]) (by simp [results, Tryz.results30, go_sem, x0, x1, x2, x3]) rfl ?_
          rw [he.out, hs.out]
          exact pget_end (p := (⟨ep, re, wr, by_⟩, 0)) Hv.out.top HP4.out Hnf.out (pGrown_set4_alloc _ _ _ _ _ _ _) Hv.out
        · have he : Hid (pGet V m k e = (zeroP, 8)) := Hof.out.trans (by simp [hep])
          have hep' : (ep != e) = true := bne_iff_ne.2 hep
          clear Hof hep
          go_wp2
          have x := pSet4_alloc HR4.out (.int .i64 0) (.int .i64 0) (.int .i64 0) (.string ⟨#[]⟩) (.cells #[.int .i64 ep, .int .i64 re, .int .i64 wr, .string by_] 66)
          have x0 := x 0
          have x1 := x 1
          have x2 := x 2
          have x3 := x 3
          dsimp at x0 x1 x2 x3
          refine bodyPost_ret (v := .tuple #[.agg #[.int .i64 0, .int .i64 0, .int .i64 0, .string ⟨#[]⟩], .int .i64 8]) (by simp [results, Tryz.results30, go_sem, x0, x1, x2, x3]) rfl ?_
          rw [he.out, hs.out]
          exact pget_end (p := (zeroP, 8)) Hv.out.top HP4.out Hnf.out (pGrown_set4_alloc _ _ _ _ _ _ _) Hv.out
      · have he : Hid (pGet V m k e = (zeroP, 8)) := Hof.out.trans (by simp [hq])
        have hq' : ((q : Int) != 0) = true := bne_iff_ne.2 (by omega)
        clear Hof hq
        go_wp2
        have x := pSet4_alloc HR4.out (.int .i64 0) (.int .i64 0) (.int .i64 0) (.string ⟨#[]⟩) (.cells #[.int .i64 ep, .int .i64 re, .int .i64 wr, .string by_] 66)
        have x0 := x 0
        have x1 := x 1
        have x2 := x 2
        have x3 := x 3
        dsimp at x0 x1 x2 x3
        refine bodyPost_ret (v := .tuple #[.agg #[.int .i64 0, .int .i64 0, .int .i64 0, .string ⟨#[]⟩], .int .i64 8]) (by simp [results, Tryz.results30, go_sem, x0, x1, x2, x3]) rfl ?_
        rw [he.out, hs.out]
        exact pget_end (p := (zeroP, 8)) Hv.out.top HP4.out Hnf.out (pGrown_set4_alloc _ _ _ _ _ _ _) Hv.out
  · have he : Hid (pGet V m k e = (zeroP, q)) := by show _ = _; simp [pGet, Hq.out, h0]
    have hs : Hid (pSeen V m k e = V) := by show _ = _; simp [pSeen, Hq.out, h0]
    have h0' : ((q : Int) != 0) = true := bne_iff_ne.2 (by omega)
    clear h0
    go_wp2
    refine bodyPost_ret (v := .tuple #[.agg #[.int .i64 0, .int .i64 0, .int .i64 0, .string ⟨#[]⟩], .int .i64 q]) (by simp [results, Tryz.results30, go_sem, r0, r1, r2, r3]) rfl ?_
    rw [he.out, hs.out]
    exact pget_end (p := (zeroP, q)) Hv.out.top ((VQ.refl Hv.out).later HB1.out) Hf.out (pGrown_set4 _ _ _ _ _ _) Hv.out

end Go.Proofs.YtemmeopaihmlcaaGreatDoor
