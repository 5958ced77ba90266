/- Law 33: SignalBroken. -/
import Derived.Test.YtpieaakdddgdeaaGreatDoorSgkA
import Derived.Test.YtpieaakdddgdeaaGreatDoorSigN
import Derived.Test.YtpieaakdddgdeaaGreatDoorQmW
import Derived.Test.YtpieaakdddgdeaaGreatDoorSigE
namespace Go.Proofs.YtpieaakdddgdeaaGreatDoor
open Go.RowKit
attribute [local go_sem ↓] Go.wp_at_zero Go.wp_at_succ
attribute [local go_sem ↓] run_eql_rec run_neq_rec

theorem sameRB_rfl (r : RecT) : sameRB r r = true := decide_eq_true rfl
theorem broken_get (x : ByteArray) : sGet ⟨setF (fun _ => none) (ofPendN ⟨#[49]⟩) x, [], []⟩ ⟨#[49]⟩ = decR x := by
  have h : avGet ⟨setF (fun _ => none) (ofPendN ⟨#[49]⟩) x, [], []⟩ (ofPendN ⟨#[49]⟩) = (x, true) := by
    have h1 : avGet ⟨setF (fun _ => none) (ofPendN ⟨#[49]⟩) x, [], []⟩ (ofPendN ⟨#[49]⟩) = ((setF (fun _ => none) (ofPendN ⟨#[49]⟩) x (ofPendN ⟨#[49]⟩)).getD ⟨#[]⟩, (setF (fun _ => none) (ofPendN ⟨#[49]⟩) x (ofPendN ⟨#[49]⟩)).isSome) := rfl
    rw [h1]
    simp [setF]
  unfold sGet
  rw [h]
  exact if_neg (by simp)

theorem three_sets {w : World} {X : Nat} {a0 a1 a2 a3 a4 a5 : Value} {T : TypeId} (h : w.heap[X]? = some (.cells #[a0, a1, a2, a3, a4, a5] T (0, 0))) (v0 v1 v2 : Value) :
    w.grownBy (((w.setCell ⟨X, 1, none⟩ v1).setCell ⟨X, 2, none⟩ v2).setCell ⟨X, 0, none⟩ v0) (some X) ∧ (((w.setCell ⟨X, 1, none⟩ v1).setCell ⟨X, 2, none⟩ v2).setCell ⟨X, 0, none⟩ v0).heap[X]? = some (.cells #[v0, v1, v2, a3, a4, a5] T (0, 0)) :=
  ⟨grown_trans (grown_trans (grown_setCell _ _ _ _) (grown_setCell _ _ _ _)) (grown_setCell _ _ _ _), heap_setCell_same (heap_setCell_same (heap_setCell_same h 1 v1) 2 v2) 0 v0⟩
theorem apart_op : Apart 40 := by unfold Apart; decide

set_option maxRecDepth 100000 in
set_option maxHeartbeats 6400000 in
theorem broken_in (s sn : ByteArray) (kd wh to : Nat) (sg nn : Int) (iss : Bool) (w : World) (hkd : kd ≤ 255) (hsn : sn.size ≤ 100) (hcut : ((100 : Int) < (s.size : Int) ∧ s.extract 0 100 = sn) ∨ (¬ (100 : Int) < (s.size : Int) ∧ s = sn)) (hu : Usages w) :
    Calls Tryz.prog 4 #[.string s, .agg #[.int .u8 kd, .int .u8 wh, .int .u8 to, .int .i64 sg, .int .i64 nn, .bool iss]] w (TruePost w) := by
  have Hu := Lib.hid hu; clear hu
  obtain ⟨⟨⟨p, bl, i, h0, h1, h2, h3, h4, h5, h6, h7⟩, dq⟩, hd⟩ : ∃ x, decR sn = x := ⟨_, rfl⟩
  have Hd := Lib.hid hd; clear hd
  have Hcut := Lib.hid hcut; clear hcut
  have hsame := sameRB_rfl ⟨p, bl, i, h0, h1, h2, h3, h4, h5, h6, h7⟩
  have Hkd := Lib.hid hkd; clear hkd
  have HB0 : Hid (∀ o, Below w.heap.size w (w.alloc o)) := fun o => (Below.refl _ _).alloc (Nat.le_refl _) _
  have HX0 : Hid (∀ o, (w.alloc o).heap[w.heap.size]? = some o) := fun o => heap_alloc_new w o
  have hways : (100 : Int) < (s.size : Int) ∨ ¬ (100 : Int) < (s.size : Int) := Classical.em _
  rcases hways with hc | hc
  case' inl => obtain ewn := (Hcut.out.resolve_right (fun h => by omega)).2
  case' inr => obtain rfl := (Hcut.out.resolve_left (fun h => by omega)).2.symm
  all_goals
    go_enter Tryz.func4, Tryz.ntmps4
  case' inl =>
    have hmin : min (s.size : Int) 100 = 100 := Int.min_eq_right (by omega)
    have hz0 : (100 : Int) ≤ (s.size : Int) := by omega
    go_wp2_with fail
    try rw [ewn]
    clear ewn
  case' inr =>
    have hmin : min (sn.size : Int) 100 = (sn.size : Int) := Int.min_eq_left (by omega)
    have hz0 : (0 : Int) ≤ (sn.size : Int) := by omega
    have hz2 : (sn.size : Int) ≤ (sn.size : Int) := by omega
    go_wp2_with fail
  all_goals
    clear Hcut hc hmin hz0
    try clear hz2
    have HBa := Lib.hid (HB0.out (.cells #[.int .u8 kd, .int .u8 wh, .int .u8 to, .int .i64 sg, .int .i64 nn, .bool iss] 40))
    have HXa := Lib.hid (HX0.out (.cells #[.int .u8 kd, .int .u8 wh, .int .u8 to, .int .i64 sg, .int .i64 nn, .bool iss] 40))
    clear HB0 HX0
    generalize w.alloc (.cells #[.int .u8 kd, .int .u8 wh, .int .u8 to, .int .i64 sg, .int .i64 nn, .bool iss] 40) = wa at *
    refine (stateNew_any wa).mono ?_
    rintro e w2 ⟨rfl, rfl⟩
    have Hbn := Lib.hid (baseN_empty wa)
    have HB2 : Hid (Below wa.heap.size wa (wa.alloc (.cells #[.pointer none] 109))) := (Below.refl _ _).alloc (Nat.le_refl _) _
    obtain ⟨w2, hw2⟩ : ∃ w2, w2 = wa.alloc (.cells #[.pointer none] 109) := ⟨_, rfl⟩
    rw [← hw2] at Hbn HB2 ⊢
    clear hw2
    go_wp2_with fail
    refine (ofPend_any _ w2).mono ?_
    rintro e w4 ⟨rfl, hb4⟩
    have Hbn4 := Lib.hid (Hbn.out.later hb4)
    have HB4 : Hid (Below wa.heap.size wa w4) := HB2.out.trans (hb4.mono HB2.out.size)
    clear hb4 Hbn HB2
    go_wp2_with fail
    refine (baseWith (n := ofPendN ⟨#[49]⟩) (Hu.out.below (HBa.out.trans (HB4.out.mono HBa.out.size)) Hu.out.pos) Hbn4.out (by decide) (nameOk_pend one_ok) (by omega)).mono ?_
    rintro e w5 ⟨sp5, rfl, hb5, hbn5⟩
    have Hbn5 := Lib.hid hbn5
    have HB5 : Hid (Below wa.heap.size wa w5) := HB4.out.trans (hb5.mono HB4.out.size)
    clear hb5 hbn5 Hbn4 HB4
    go_wp2_with fail
    refine (known33 _ (Hu.out.below (HBa.out.trans (HB5.out.mono HBa.out.size)) Hu.out.pos)).mono ?_
    rintro e w6 ⟨rfl, hb6⟩
    have Hbn6 := Lib.hid ((Hbn5.out.later hb6).up hb6.size)
    have HB6 : Hid (Below wa.heap.size wa w6) := HB5.out.trans (hb6.mono HB5.out.size)
    clear hb6 Hbn5 HB5
    go_wp2_with fail
    refine (qmNew (w0 := w6) (Hu.out.below (HBa.out.trans (HB6.out.mono HBa.out.size)) Hu.out.pos) (Below.refl _ _) Hbn6.out).mono ?_
    rintro e w7 ⟨rfl, s7, -⟩
    have S7 := Lib.hid s7
    clear s7
    generalize w6.heap.size + 2 = b7 at *
    go_wp2_with fail
    have hg1 := broken_get sn
    rw [Hd.out] at hg1
    have Hg1 := Lib.hid hg1
    clear hg1
    refine (qmSGet' S7.out one_ok Hg1.out).mono ?_
    rintro e w8 ⟨rfl, s8, -⟩
    have Hsz8 : Hid (w.heap.size < w8.heap.size) := by
      show _ < _
      have h1 := lt_of_heap HXa.out
      have h2 := HB6.out.size
      have h3 := s8.below.size
      omega
    have HBx : Hid (∀ o, Below wa.heap.size wa (w8.alloc o)) := fun o => HB6.out.trans ((s8.below.alloc s8.below.size o).mono HB6.out.size)
    have HbnG : Hid (∀ o, BaseN 1 (w8.alloc o).heap.size (w8.alloc o) sp5 (setF (fun _ => none) (ofPendN ⟨#[49]⟩) sn)) := fun o => (Hbn6.out.later (s8.below.alloc s8.below.size o)).up (by have := s8.below.size; simp; omega)
    have HXx : Hid (∀ o, (w8.alloc o).heap[w8.heap.size]? = some o) := fun o => heap_alloc_new w8 o
    clear s8 S7
    dsimp only [recV, rCells]
    go_wp2_with fail
    refine (lDecodeR_any sn _ (by omega)).mono ?_
    rw [Hd.out]
    rintro e w9 ⟨rfl, hb9⟩
    have Hsz9 : Hid (w8.heap.size < w9.heap.size) := by
      show _ < _
      have h1 := hb9.size
      simp at h1
      omega
    have HX9 : Hid (∀ o, (w9.alloc o).heap[w8.heap.size]? = some (.cells (rCells ⟨p, bl, i, h0, h1, h2, h3, h4, h5, h6, h7⟩) 30 (0, 0))) := fun o => (Below.heap_alloc w9 o _ (Nat.lt_of_lt_of_le (lt_of_heap (HXx.out (.cells #[] 0))) (by have := hb9.size; simpa using this))).trans ((hb9.block _ (lt_of_heap (HXx.out _))).trans (HXx.out _))
    have HY9 : Hid (∀ o, (w9.alloc o).heap[w9.heap.size]? = some o) := fun o => heap_alloc_new w9 o
    have HB9 : Hid (∀ o, Below wa.heap.size wa (w9.alloc o)) := fun o => ((HBx.out _).trans (hb9.mono (HBx.out _).size)).alloc (Nat.le_trans (HBx.out (.cells #[] 0)).size (by have := hb9.size; simpa using this)) _
    have Hbn9 : Hid (∀ o, BaseN 1 (w9.alloc o).heap.size (w9.alloc o) sp5 (setF (fun _ => none) (ofPendN ⟨#[49]⟩) sn)) := fun o => ((HbnG.out _).later (hb9.alloc hb9.size o)).up (by have := hb9.size; simp at this ⊢; omega)
    clear hb9 HBx HXx HbnG
    dsimp only [recV, rCells]
    go_upto_region 7 with fail
    have hXw := fun o => ((HB9.out o).block w.heap.size (lt_of_heap HXa.out)).trans HXa.out
    have x0 := cell_of_heap (hXw (.cells #[.int .i64 p, .int .i64 bl, .int .i64 i, .int .i64 h0, .int .i64 h1, .int .i64 h2, .int .i64 h3, .int .i64 h4, .int .i64 h5, .int .i64 h6, .int .i64 h7] 30)) 0
    have x1 := cell_of_heap (hXw (.cells #[.int .i64 p, .int .i64 bl, .int .i64 i, .int .i64 h0, .int .i64 h1, .int .i64 h2, .int .i64 h3, .int .i64 h4, .int .i64 h5, .int .i64 h6, .int .i64 h7] 30)) 1
    have x2 := cell_of_heap (hXw (.cells #[.int .i64 p, .int .i64 bl, .int .i64 i, .int .i64 h0, .int .i64 h1, .int .i64 h2, .int .i64 h3, .int .i64 h4, .int .i64 h5, .int .i64 h6, .int .i64 h7] 30)) 2
    have y0 := frozen_of_heap (hXw (.cells #[.int .i64 p, .int .i64 bl, .int .i64 i, .int .i64 h0, .int .i64 h1, .int .i64 h2, .int .i64 h3, .int .i64 h4, .int .i64 h5, .int .i64 h6, .int .i64 h7] 30)) 0
    have y1 := frozen_of_heap (hXw (.cells #[.int .i64 p, .int .i64 bl, .int .i64 i, .int .i64 h0, .int .i64 h1, .int .i64 h2, .int .i64 h3, .int .i64 h4, .int .i64 h5, .int .i64 h6, .int .i64 h7] 30)) 1
    have y2 := frozen_of_heap (hXw (.cells #[.int .i64 p, .int .i64 bl, .int .i64 i, .int .i64 h0, .int .i64 h1, .int .i64 h2, .int .i64 h3, .int .i64 h4, .int .i64 h5, .int .i64 h6, .int .i64 h7] 30)) 2
    clear hXw
    go_upto_region 8 with fail
    clear x0 x1 x2 y0 y1 y2
    obtain ⟨kq, hkq, hk3, hk9⟩ : ∃ kq : Nat, 3 + (kd : Int) % 7 = (kq : Int) ∧ 3 ≤ kq ∧ kq ≤ 9 := ⟨3 + kd % 7, by omega, by omega, by omega⟩
    rw [hkq]
    clear hkq
    have HXw := Lib.hid (fun o => ((HB9.out o).block w.heap.size (lt_of_heap HXa.out)).trans HXa.out)
    obtain ⟨hgr, hXn⟩ := three_sets (HXw.out (.cells #[.int .i64 p, .int .i64 bl, .int .i64 i, .int .i64 h0, .int .i64 h1, .int .i64 h2, .int .i64 h3, .int .i64 h4, .int .i64 h5, .int .i64 h6, .int .i64 h7] 30)) (.int .u8 kq) (.int .u8 1) (.int .u8 1)
    have Hbn0 := Lib.hid (Hbn9.out (.cells #[.int .i64 p, .int .i64 bl, .int .i64 i, .int .i64 h0, .int .i64 h1, .int .i64 h2, .int .i64 h3, .int .i64 h4, .int .i64 h5, .int .i64 h6, .int .i64 h7] 30))
    have HB0 := Lib.hid (HB9.out (.cells #[.int .i64 p, .int .i64 bl, .int .i64 i, .int .i64 h0, .int .i64 h1, .int .i64 h2, .int .i64 h3, .int .i64 h4, .int .i64 h5, .int .i64 h6, .int .i64 h7] 30))
    have HR0 := Lib.hid (HX9.out (.cells #[.int .i64 p, .int .i64 bl, .int .i64 i, .int .i64 h0, .int .i64 h1, .int .i64 h2, .int .i64 h3, .int .i64 h4, .int .i64 h5, .int .i64 h6, .int .i64 h7] 30))
    have HQ0 := Lib.hid (HY9.out (.cells #[.int .i64 p, .int .i64 bl, .int .i64 i, .int .i64 h0, .int .i64 h1, .int .i64 h2, .int .i64 h3, .int .i64 h4, .int .i64 h5, .int .i64 h6, .int .i64 h7] 30))
    have HX0 := Lib.hid (HXw.out (.cells #[.int .i64 p, .int .i64 bl, .int .i64 i, .int .i64 h0, .int .i64 h1, .int .i64 h2, .int .i64 h3, .int .i64 h4, .int .i64 h5, .int .i64 h6, .int .i64 h7] 30))
    clear Hbn9 HB9 HX9 HY9 HXw
    generalize w9.alloc (.cells #[.int .i64 p, .int .i64 bl, .int .i64 i, .int .i64 h0, .int .i64 h1, .int .i64 h2, .int .i64 h3, .int .i64 h4, .int .i64 h5, .int .i64 h6, .int .i64 h7] 30) = wy at *
    have Hgr := Lib.hid hgr
    have HXn := Lib.hid hXn
    clear hgr hXn
    generalize ((wy.setCell ⟨w.heap.size, 1, none⟩ (.int .u8 1)).setCell ⟨w.heap.size, 2, none⟩ (.int .u8 1)).setCell ⟨w.heap.size, 0, none⟩ (.int .u8 kq) = wz at *
    have HBz : Hid (Below w.heap.size w wz) := by
      have h1 : Below w.heap.size w wy := HBa.out.trans (HB0.out.mono HBa.out.size)
      exact h1.trans ⟨Hgr.out.os, Hgr.out.tape, Hgr.out.output, Hgr.out.size, fun k hk => Hgr.out.block k (Nat.lt_of_lt_of_le hk h1.size) (fun e => by have := Option.some.inj e; omega)⟩
    have Hbnz : Hid (BaseN 1 wz.heap.size wz sp5 (setF (fun _ => none) (ofPendN ⟨#[49]⟩) sn)) := (Hbn0.out.box HX0.out apart_op Hgr.out).up Hgr.out.size
    have HZ : Hid (w.heap.size ≠ w8.heap.size ∧ w.heap.size ≠ w9.heap.size) := by
      have h1 := Hsz8.out
      have h2 := Hsz9.out
      exact ⟨by omega, by omega⟩
    have hr0 := (Hgr.out.block w8.heap.size (lt_of_heap HR0.out) (fun e => HZ.out.1 (Option.some.inj e).symm)).trans HR0.out
    have hq0 := (Hgr.out.block w9.heap.size (lt_of_heap HQ0.out) (fun e => HZ.out.2 (Option.some.inj e).symm)).trans HQ0.out
    have r0 : wz.cell? ⟨w8.heap.size, 0, none⟩ = some (.int .i64 p) := cell_of_heap hr0 0
    have g0 : wz.cell? ⟨w9.heap.size, 0, none⟩ = some (.int .i64 p) := cell_of_heap hq0 0
    have r1 : wz.cell? ⟨w8.heap.size, 1, none⟩ = some (.int .i64 bl) := cell_of_heap hr0 1
    have g1 : wz.cell? ⟨w9.heap.size, 1, none⟩ = some (.int .i64 bl) := cell_of_heap hq0 1
    have r2 : wz.cell? ⟨w8.heap.size, 2, none⟩ = some (.int .i64 i) := cell_of_heap hr0 2
    have g2 : wz.cell? ⟨w9.heap.size, 2, none⟩ = some (.int .i64 i) := cell_of_heap hq0 2
    have r3 : wz.cell? ⟨w8.heap.size, 3, none⟩ = some (.int .i64 h0) := cell_of_heap hr0 3
    have g3 : wz.cell? ⟨w9.heap.size, 3, none⟩ = some (.int .i64 h0) := cell_of_heap hq0 3
    have r4 : wz.cell? ⟨w8.heap.size, 4, none⟩ = some (.int .i64 h1) := cell_of_heap hr0 4
    have g4 : wz.cell? ⟨w9.heap.size, 4, none⟩ = some (.int .i64 h1) := cell_of_heap hq0 4
    have r5 : wz.cell? ⟨w8.heap.size, 5, none⟩ = some (.int .i64 h2) := cell_of_heap hr0 5
    have g5 : wz.cell? ⟨w9.heap.size, 5, none⟩ = some (.int .i64 h2) := cell_of_heap hq0 5
    have r6 : wz.cell? ⟨w8.heap.size, 6, none⟩ = some (.int .i64 h3) := cell_of_heap hr0 6
    have g6 : wz.cell? ⟨w9.heap.size, 6, none⟩ = some (.int .i64 h3) := cell_of_heap hq0 6
    have r7 : wz.cell? ⟨w8.heap.size, 7, none⟩ = some (.int .i64 h4) := cell_of_heap hr0 7
    have g7 : wz.cell? ⟨w9.heap.size, 7, none⟩ = some (.int .i64 h4) := cell_of_heap hq0 7
    have r8 : wz.cell? ⟨w8.heap.size, 8, none⟩ = some (.int .i64 h5) := cell_of_heap hr0 8
    have g8 : wz.cell? ⟨w9.heap.size, 8, none⟩ = some (.int .i64 h5) := cell_of_heap hq0 8
    have r9 : wz.cell? ⟨w8.heap.size, 9, none⟩ = some (.int .i64 h6) := cell_of_heap hr0 9
    have g9 : wz.cell? ⟨w9.heap.size, 9, none⟩ = some (.int .i64 h6) := cell_of_heap hq0 9
    have r10 : wz.cell? ⟨w8.heap.size, 10, none⟩ = some (.int .i64 h7) := cell_of_heap hr0 10
    have g10 : wz.cell? ⟨w9.heap.size, 10, none⟩ = some (.int .i64 h7) := cell_of_heap hq0 10
    clear hr0 hq0 HX0 HB0 Hbn0 HR0 HQ0 Hgr Hsz8 Hsz9 HZ
    go_upto_region 10 with fail
    clear r0 g0 r1 g1 r2 g2 r3 g3 r4 g4 r5 g5 r6 g6 r7 g7 r8 g8 r9 g9 r10 g10
    go_wp2_with fail
    refine (qmNew (w0 := wz) (Hu.out.below HBz.out Hu.out.pos) (Below.refl _ _) Hbnz.out).mono ?_
    rintro e wb ⟨rfl, sb, -⟩
    have Sb := Lib.hid sb
    clear sb Hbnz
    generalize wz.heap.size + 2 = bb at *
    have hxb := (Sb.out.below.block _ (lt_of_heap HXn.out)).trans HXn.out
    have x0 := cell_of_heap hxb 0
    have x1 := cell_of_heap hxb 1
    have x2 := cell_of_heap hxb 2
    have x3 := cell_of_heap hxb 3
    have x4 := cell_of_heap hxb 4
    have x5 := cell_of_heap hxb 5
    clear hxb
    have HN : Hid ((⟨setF (fun _ => none) (ofPendN ⟨#[49]⟩) sn, [], []⟩ : AV).calls.length < 1000000) := by show 0 < 1000000; decide
    have hg2 := broken_get sn
    rw [Hd.out] at hg2
    have HP : Hid (dq ≠ 0 → _) := fun hne => broken_plain (V := ⟨setF (fun _ => none) (ofPendN ⟨#[49]⟩) sn, [], []⟩) hg2 hne kq ⟨hk3, hk9⟩ sg nn iss
    clear hg2
    go_wp2_with fail
    refine (sCall_any Sb.out HN.out kq 1 1 sg nn iss (by decide) (by decide) (by omega)).mono ?_
    rintro e wc ⟨rfl, sc, -⟩
    have HXc := Lib.hid ((sc.below.block _ (lt_of_heap HXn.out)).trans HXn.out)
    have HFc : Hid (∀ o, Below w.heap.size w (wc.alloc o)) := fun o => HBz.out.trans ((sc.below.alloc sc.below.size o).mono HBz.out.size)
    have Sc : Hid (∀ o, QM wz (wc.alloc o) bb 1 _ (fun _ => False)) := fun o => sc.later ((Below.refl _ _).alloc (Nat.le_refl _) _)
    clear sc Sb x0 x1 x2 x3 x4 x5
    generalize (sCall ⟨setF (fun _ => none) (ofPendN ⟨#[49]⟩) sn, [], []⟩ kq 1 1 sg nn iss).1 = V1 at *
    obtain ⟨rs, hrs⟩ : ∃ rs, (sCall ⟨setF (fun _ => none) (ofPendN ⟨#[49]⟩) sn, [], []⟩ kq 1 1 sg nn iss).2 = rs := ⟨_, rfl⟩
    rw [hrs] at HP ⊢
    clear hrs
    obtain ⟨rsg, rac, rad, ris, re⟩ := rs
    dsimp only [sResCells] at *
    by_cases hq : dq = 0
    · subst hq
      clear HP
      go_wp2
      go_ret
      exact ⟨rfl, HFc.out _⟩
    · obtain ⟨p1, rfl, p3⟩ := HP.out hq
      have P1 := Lib.hid p1
      clear p1 HP
      have hd0 : ((dq : Int) == 0) = false := beq_eq_false_iff_ne.2 (by omega)
      have hways : (re = 0 ∧ kq = 9) ∨ (re ≠ 0 ∧ ((re : Int) != 0) = true ∧ ((re : Int) == 0) = false) := by
        by_cases h : re = 0
        · exact .inl ⟨h, p3.resolve_left (fun h' => h' h)⟩
        · exact .inr ⟨h, bne_iff_ne.2 (by omega), beq_eq_false_iff_ne.2 (by omega)⟩
      clear p3
      have HRd : Hid (∀ o, (wc.alloc o).heap[wc.heap.size]? = some o) := fun o => heap_alloc_new wc o
      have HXd : Hid (∀ o, (wc.alloc o).cell? ⟨w.heap.size, 0, none⟩ = some (.int .u8 kq)) := fun o => cell_of_heap ((Below.heap_alloc wc o _ (lt_of_heap HXc.out)).trans HXc.out) 0
      rcases hways with ⟨rfl, rfl⟩ | ⟨h1, h2, h3⟩
      case' inl => have xd := HXd.out (.cells #[.int .i64 rsg, .int .i64 rac, .int .i64 rad, .bool false, .int .i64 0] 49)
      all_goals
        go_wp2_with fail
        refine (qmWrites (Sc.out _)).mono ?_
        rintro e we ⟨v5, cs5, rfl, hr5, hp5, -, hb5, -⟩
        rw [P1.out] at hp5
        obtain rfl : cs5 = [] := List.Perm.eq_nil hp5
        obtain ⟨a5, c5, rfl, -⟩ := hr5
        have HFe : Hid (Below w.heap.size w we) := (HFc.out _).trans (hb5.mono (HFc.out _).size)
        have hxi := (hb5.block wc.heap.size (by simp)).trans (HRd.out _)
        have xi : we.cell? ⟨wc.heap.size, 3, none⟩ = some (.bool false) := cell_of_heap hxi 3
        clear hp5 hb5 hxi
        go_wp2
        go_ret
        exact ⟨rfl, HFe.out⟩
theorem broken_any (s : ByteArray) (kd wh to : Nat) (sg nn : Int) (iss : Bool) (w : World) (hkd : kd ≤ 255) (hu : Usages w) :
    Calls Tryz.prog 4 #[.string s, .agg #[.int .u8 kd, .int .u8 wh, .int .u8 to, .int .i64 sg, .int .i64 nn, .bool iss]] w (TruePost w) := by
  by_cases h : (100 : Int) < (s.size : Int)
  · exact broken_in s (s.extract 0 100) kd wh to sg nn iss w hkd (by rw [ByteArray.size_extract]; omega) (.inl ⟨h, rfl⟩) hu
  · exact broken_in s s kd wh to sg nn iss w hkd (by omega) (.inr ⟨h, rfl⟩) hu
end Go.Proofs.YtpieaakdddgdeaaGreatDoor
