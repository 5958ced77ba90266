/- Law 32: Play, the walk. -/
import Derived.Test.YtemmeopaihmlcaaGreatDoorPlyI
namespace Go.Proofs.YtemmeopaihmlcaaGreatDoor
open Go.RowKit
attribute [local go_sem ↓] Go.wp_at_zero Go.wp_at_succ

set_option maxRecDepth 100000 in
set_option maxHeartbeats 3200000 in
theorem play_any (a : Option Addr) (n c : Nat) (fo : Nat → OpT) (w : World) (hu : Usages w) (hn : n ≤ 9223372036854775807) (hl : OpSl w a n fo) : Calls Tryz.prog 40 #[.slice a n c] w (PlayPost w) := by
  have Hl := Lib.hid hl; clear hl
  have Hup : Hid (0 < w.heap.size) := hu.pos
  have HP : Hid (∀ sp1, PlInv w ((w.alloc (.cells #[.int .i64 0, .int .i64 0, .int .i64 0, .string ⟨#[]⟩] 63)).alloc (.cells #[.pointer none] 117)) 0 (w.heap.size + 1) zeroP (fun _ => none) ∨ sp1 = 0) := fun _ => .inl (by
    have hb1 : Below w.heap.size w (w.alloc (.cells #[.int .i64 0, .int .i64 0, .int .i64 0, .string ⟨#[]⟩] 63)) := (Below.refl _ _).alloc (Nat.le_refl _) _
    have hbn := baseN_empty (w.alloc (.cells #[.int .i64 0, .int .i64 0, .int .i64 0, .string ⟨#[]⟩] 63))
    simp only [World.size_alloc] at hbn
    exact ⟨hb1.alloc (by simp) _, (Below.heap_alloc _ _ _ (by simp)).trans (World.alloc_heap_new w _), (by simpa only [World.size_alloc] using hbn), ⟨rfl, Nat.zero_le _, fun _ => rfl, fun p e => by rw [optP_zero] at e; cases e⟩, .inl rfl, fun _ _ => rfl, hu.below (hb1.alloc (by simp) _) hu.pos⟩)
  go_enter Tryz.func40, Tryz.ntmps40
  go_wp2_with fail
  refine (stateNew_any _).mono ?_
  rintro e w1 ⟨rfl, rfl⟩
  have HI0 : Hid (PlInv w ((w.alloc (.cells #[.int .i64 0, .int .i64 0, .int .i64 0, .string ⟨#[]⟩] 63)).alloc (.cells #[.pointer none] 117)) 0 (w.heap.size + 1) zeroP (fun _ => none)) := (HP.out 1).resolve_right (by decide)
  clear HP hu
  generalize (w.alloc (.cells #[.int .i64 0, .int .i64 0, .int .i64 0, .string ⟨#[]⟩] 63)).alloc (.cells #[.pointer none] 117) = w1 at *
  go_wp2_with fail
  go_loopg [2, 5] n (fun gk sv iv wr => ∃ (k sp : Nat) (p : PipeT) (f : NameT → Option ByteArray), k + gk = n ∧ iv = .int .i64 k ∧ sv = .pointer (some ⟨sp, 0, none⟩) ∧ k ≤ 40 ∧ Hid (PlInv w wr k sp p f))
  case atStart => exact ⟨0, _, zeroP, fun _ => none, by omega, rfl, rfl, by omega, HI0.out⟩
  case round =>
    clear HI0
    obtain ⟨k, sp, p, f, hk, rfl, rfl, hk40, HI⟩ := hrel
    have Hk := Lib.hid hk
    have hkn : k ≤ n := by omega
    clear hk
    by_cases hlt : k < n ∧ k < 40
    · obtain ⟨hlt, hlt40⟩ := hlt
      obtain ⟨g, off, rfl, hc⟩ := Hl.out.later HI.out.low (by omega)
      obtain ⟨c0, c1, c2, c3, c4, hkd, hnn, hss⟩ := hc k hlt
      clear hc
      generalize fo k = o at *
      obtain ⟨kd, oe, on, os_, ox⟩ := o
      dsimp only at *
      obtain ⟨pe, pr, pw, pb⟩ := p
      obtain ⟨hres, d, hd, hh⟩ := holds_same HI.out.holds kd oe on os_ ox
      obtain ⟨⟨⟨n0, n1, n2, n3⟩, ⟨rq, rn, ry, ⟨r3, r4, r5, r6⟩⟩⟩, hsm⟩ : ∃ z, smeR kd oe on os_ ox ⟨pe, pr, pw, pb⟩ = z := ⟨_, rfl⟩
      have Hsm : Hid (∀ W, Calls Tryz.prog 37 #[.agg #[.int .i64 pe, .int .i64 pr, .int .i64 pw, .string pb], .agg #[.int .u8 kd, .int .i64 oe, .int .i64 on, .string os_, .bool ox], .agg #[.int .i64 rq, .int .i64 rn, .string ry, .int .i64 r3, .int .i64 r4, .int .i64 r5, .string r6]] W (SmP W ⟨n0, n1, n2, n3⟩)) := fun W => by
        have h := same_any pe pr pw pb kd oe on os_ ox hkd hss W
        rw [hsm] at h
        exact h
      have Hdo : Hid (∀ W b, QM wr W b k ⟨f, [], []⟩ (fun _ => False) → Calls Tryz.prog 38 #[.pointer (some ⟨b, 0, none⟩), .agg #[.int .u8 kd, .int .i64 oe, .int .i64 on, .string os_, .bool ox]] W (QMP wr b k (doV ⟨f, [], []⟩ kd oe on os_ ox).1 (fun _ => False) W (.agg #[.int .i64 rq, .int .i64 rn, .string ry, .int .i64 r3, .int .i64 r4, .int .i64 r5, .string r6]))) := fun W b s => by
        have h := doV_any wr W b k _ _ kd oe on os_ ox hkd s (HI.out.holds.ready (by decide)) hnn hss
        rw [hres, hsm] at h
        exact h
      have Hnext : Hid (∀ {w2 w5 : World} {b sp' : Nat}, QM w w2 b k (doV ⟨f, [], []⟩ kd oe on os_ ox).1 (fun _ => False) → w2.heap[w.heap.size]? = some (.cells (pCells ⟨n0, n1, n2, n3⟩) 63 (0, 0)) → Below w2.heap.size w2 w5 → BaseN (k + (doV ⟨f, [], []⟩ kd oe on os_ ox).1.calls.length) w5.heap.size w5 sp' (stOf (doV ⟨f, [], []⟩ kd oe on os_ ox).1) → PlInv w w5 (k + 1) sp' ⟨n0, n1, n2, n3⟩ (stOf (doV ⟨f, [], []⟩ kd oe on os_ ox).1)) := fun h1 h2 h3 h4 =>
        pl_next HI.out h1 h2 hd (by rw [hsm] at hh; exact hh) (by rw [hsm]) h3 h4
      have HlV : Hid ((doV ⟨f, [], []⟩ kd oe on os_ ox).1.calls.length ≤ 1) := by show _ ≤ _; rw [hh.len]; omega
      clear hd hres hsm hh
      generalize (doV ⟨f, [], []⟩ kd oe on os_ ox).1 = V1 at *
      have Hglt : Hid (g < wr.heap.size) := World.block_lt_of_cell? wr ⟨g, _, none⟩ c0
      have HC : Hid (∀ W, Below wr.heap.size wr W → (W.cell? ⟨w.heap.size, 0, none⟩ = some (.int .i64 pe) ∧ W.cell? ⟨w.heap.size, 1, none⟩ = some (.int .i64 pr) ∧ W.cell? ⟨w.heap.size, 2, none⟩ = some (.int .i64 pw) ∧ W.cell? ⟨w.heap.size, 3, none⟩ = some (.string pb) ∧ W.cell? ⟨g, off + k * 5, none⟩ = some (.int .u8 kd) ∧ W.cell? ⟨g, off + k * 5 + 1, none⟩ = some (.int .i64 oe) ∧ W.cell? ⟨g, off + k * 5 + 2, none⟩ = some (.int .i64 on) ∧ W.cell? ⟨g, off + k * 5 + 3, none⟩ = some (.string os_) ∧ W.cell? ⟨g, off + k * 5 + 4, none⟩ = some (.bool ox))) := fun W hb => by
        have hx := (hb.block _ (lt_of_heap HI.out.box)).trans HI.out.box
        exact ⟨cell_of_heap hx 0, cell_of_heap hx 1, cell_of_heap hx 2, cell_of_heap hx 3, ((bcell hb).1 g _ Hglt.out).trans c0, ((bcell hb).1 g _ Hglt.out).trans c1, ((bcell hb).1 g _ Hglt.out).trans c2, ((bcell hb).1 g _ Hglt.out).trans c3, ((bcell hb).1 g _ Hglt.out).trans c4⟩
      have HX : Hid (∀ W, Below wr.heap.size wr W → W.heap[w.heap.size]? = some (.cells (pCells ⟨pe, pr, pw, pb⟩) 63 (0, 0))) := fun W hb => (hb.block _ (lt_of_heap HI.out.box)).trans HI.out.box
      have HL : Hid (Below w.heap.size w wr) := HI.out.low
      clear c0 c1 c2 c3 c4
      go_wp2_with fail
      refine (qmNew (w0 := wr) HI.out.us (Below.refl _ _) HI.out.base).mono ?_
      rintro r w1 ⟨rfl, s1, -⟩
      have S1 := Lib.hid s1; clear s1 HI
      obtain ⟨q0, q1, q2, q3, q4, q5, q6, q7, q8⟩ := HC.out _ S1.out.below
      go_wp2_with fail
      go_region_with (first
        | (go_at_call 38; refine (Hdo.out _ _ (S1.out.later (Below.drew (Below.refl _ _)))).mono ?_; rintro r w2 ⟨rfl, s2, -⟩; have T2 := Lib.hid s2; clear s2; obtain ⟨u0, u1, u2, u3, u4, u5, u6, u7, u8⟩ := HC.out _ T2.out.below)
        | (go_at_call 37; refine (Hsm.out _).mono ?_; rintro r w3 ⟨rfl, hb⟩; have T3 := Lib.hid (T2.out.later hb); clear hb; obtain ⟨b0, b1, b2, b3, -, -, -, -, -⟩ := HC.out _ T3.out.below; have nf : ∀ i, w3.frozen? ⟨w.heap.size, i, none⟩ = false := fun i => frozen_of_heap (HX.out _ T3.out.below) i)
        | fail)
      all_goals
        have HB6 := Lib.hid (set4 (HX.out _ T3.out.below) (.int .i64 n0) (.int .i64 n1) (.int .i64 n2) (.string n3))
        have S6 := Lib.hid ((T3.out.from HL.out).box (HX.out _ T3.out.below) apart_P Hup.out (Nat.le_refl _) (pGrown_set4 w3 w.heap.size (.int .i64 n0) (.int .i64 n1) (.int .i64 n2) (.string n3)))
        clear q0 q1 q2 q3 q4 q5 q6 q7 q8 u0 u1 u2 u3 u4 u5 u6 u7 u8 b0 b1 b2 b3 nf S1 T2 T3 HC HX HL Hsm Hdo Hglt
        generalize ((((w3.setCell ⟨w.heap.size, 0, none⟩ (.int .i64 n0)).setCell ⟨w.heap.size, 1, none⟩ (.int .i64 n1)).setCell ⟨w.heap.size, 2, none⟩ (.int .i64 n2)).setCell ⟨w.heap.size, 3, none⟩ (.string n3)) = w6 at *
        go_wp2_with fail
        refine (qmAfter S6.out (by have := HlV.out; omega)).mono ?_
        rintro r w7 ⟨sp', rfl, hb7, hbn⟩
        have HI7 := Lib.hid (Hnext.out S6.out HB6.out hb7 hbn)
        clear hb7 hbn S6 HB6 Hnext
        go_wp2
        go_roundg (n - (k + 1))
        case measure => have := Hk.out; omega
        case rel => exact ⟨k + 1, sp', ⟨n0, n1, n2, n3⟩, _, by have := Hk.out; omega, by go_num, rfl, by omega, HI7.out⟩
    · have hways : ¬ k < n ∨ (k < n ∧ ¬ k < 40) := by omega
      clear hlt
      obtain ⟨pe, pr, pw, pb⟩ := p
      have b0 : wr.cell? ⟨w.heap.size, 0, none⟩ = some (.int .i64 pe) := cell_of_heap HI.out.box 0
      have b1 : wr.cell? ⟨w.heap.size, 1, none⟩ = some (.int .i64 pr) := cell_of_heap HI.out.box 1
      have b2 : wr.cell? ⟨w.heap.size, 2, none⟩ = some (.int .i64 pw) := cell_of_heap HI.out.box 2
      have b3 : wr.cell? ⟨w.heap.size, 3, none⟩ = some (.string pb) := cell_of_heap HI.out.box 3
      have nf : ∀ i, wr.frozen? ⟨w.heap.size, i, none⟩ = false := fun i => frozen_of_heap HI.out.box i
      have HF : Hid (PlayPost w (.returned (.tuple #[.pointer (some ⟨sp, 0, none⟩), .agg #[.int .i64 pe, .int .i64 pr, .int .i64 pw, .string pb], .bool true])) ((((wr.setCell ⟨w.heap.size, 0, none⟩ (.int .i64 pe)).setCell ⟨w.heap.size, 1, none⟩ (.int .i64 pr)).setCell ⟨w.heap.size, 2, none⟩ (.int .i64 pw)).setCell ⟨w.heap.size, 3, none⟩ (.string pb)).drew) := by
        have hg0 := pGrown_set4 wr w.heap.size (.int .i64 pe) (.int .i64 pr) (.int .i64 pw) (.string pb)
        have hg : wr.grownBy ((((wr.setCell ⟨w.heap.size, 0, none⟩ (.int .i64 pe)).setCell ⟨w.heap.size, 1, none⟩ (.int .i64 pr)).setCell ⟨w.heap.size, 2, none⟩ (.int .i64 pw)).setCell ⟨w.heap.size, 3, none⟩ (.string pb)).drew (some w.heap.size) := ⟨hg0.os, hg0.tape, hg0.output, hg0.size, hg0.block⟩
        have hbn := HI.out.base.box HI.out.box apart_P hg
        have hbl := below_box hg (Nat.le_refl _) (lt_of_heap HI.out.box)
        exact ⟨sp, ⟨pe, pr, pw, pb⟩, f, rfl, HI.out.low.trans hbl, (hbn.more hk40).up hg.size, HI.out.holds, HI.out.pz, HI.out.only, HI.out.us.below (below_box (B := 1) hg Hup.out (lt_of_heap HI.out.box)) (by decide)⟩
      rcases hways with h5 | ⟨h5, h5'⟩
      all_goals
        go_wp2_with fail
        go_region
        go_wp2
        refine bodyPost_ret (v := .tuple #[.pointer (some ⟨sp, 0, none⟩), .agg #[.int .i64 pe, .int .i64 pr, .int .i64 pw, .string pb], .bool true]) (by simp [results, Tryz.results40, go_sem, b0, b1, b2, b3]) rfl ?_
        exact HF.out
end Go.Proofs.YtemmeopaihmlcaaGreatDoor
