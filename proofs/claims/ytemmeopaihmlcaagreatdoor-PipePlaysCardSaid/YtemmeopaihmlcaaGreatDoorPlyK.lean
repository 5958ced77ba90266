/- Law 32: PipePlays, the walk. -/
import Derived.Test.YtemmeopaihmlcaaGreatDoorPlyJ
import Derived.Test.YtemmeopaihmlcaaGreatDoorMem
namespace Go.Proofs.YtemmeopaihmlcaaGreatDoor
open Go.RowKit
attribute [local go_sem ↓] Go.wp_at_zero Go.wp_at_succ

/-- Between two rounds: the view, made after w1, holds the reference's pipe; the box of the pipe. -/
structure PpInv (w1 wr : World) (R : Nat) (k : Nat) (p : PipeT) : Prop where
  box : wr.heap[R]? = some (.cells (pCells p) 63 (0, 0))
  qm : ∃ V N, QM w1 wr (w1.heap.size + 3) 0 V (fun j => j = R) ∧ HoldsP V N (optP p) ∧ N ≤ k

/-- In the midst of a round: the boxes of the pipe and of the next one. -/
structure PpMid (w1 W : World) (b R X : Nat) (V : AV) (p q : PipeT) : Prop where
  qm : QM w1 W b 0 V (fun j => j = R ∨ j = X)
  r : W.heap[R]? = some (.cells (pCells p) 63 (0, 0))
  x : W.heap[X]? = some (.cells (pCells q) 63 (0, 0))
section
variable {w1 W W' : World} {b R X : Nat} {V : AV} {p q : PipeT}
theorem PpMid.of (s : QM w1 W b 0 V (fun j => j = R)) (hr : W.heap[R]? = some (.cells (pCells p) 63 (0, 0))) (q : PipeT) : PpMid w1 (W.alloc (.cells (pCells q) 63)) b R W.heap.size V p q :=
  ⟨s.fresh ((Below.refl _ _).alloc (Nat.le_refl _) _) (fun k hk => hk.imp id (fun e => by subst e; simp)), (Below.heap_alloc _ _ _ (lt_of_heap hr)).trans hr, World.alloc_heap_new W _⟩
theorem PpMid.later (h : PpMid w1 W b R X V p q) (hb : Below W.heap.size W W') : PpMid w1 W' b R X V p q :=
  ⟨h.qm.later hb, (hb.block _ (lt_of_heap h.r)).trans h.r, (hb.block _ (lt_of_heap h.x)).trans h.x⟩
theorem PpMid.store (h : PpMid w1 W b R X V p q) (hne : R ≠ X) (q' : PipeT) : PpMid w1 ((((W.setCell ⟨X, 0, none⟩ (.int .i64 q'.epoch)).setCell ⟨X, 1, none⟩ (.int .i64 q'.readers)).setCell ⟨X, 2, none⟩ (.int .i64 q'.writers)).setCell ⟨X, 3, none⟩ (.string q'.bytes)) b R X V p q' :=
  ⟨h.qm.guarded (Kept.of_grown (pGrown_set4 W X _ _ _ _) _ (fun k hk => by cases hk; exact .inr rfl)) (fun k hk => .inl hk), (set4_other _ hne _ _ _ _).trans h.r, set4 h.x _ _ _ _⟩
theorem PpMid.put (h : PpMid w1 W b R X V p q) (hne : R ≠ X) (q' : PipeT) : PpMid w1 ((((W.setCell ⟨R, 0, none⟩ (.int .i64 q'.epoch)).setCell ⟨R, 1, none⟩ (.int .i64 q'.readers)).setCell ⟨R, 2, none⟩ (.int .i64 q'.writers)).setCell ⟨R, 3, none⟩ (.string q'.bytes)) b R X V q' q :=
  ⟨h.qm.guarded (Kept.of_grown (pGrown_set4 W R _ _ _ _) _ (fun k hk => by cases hk; exact .inl rfl)) (fun k hk => .inl hk), set4 h.r _ _ _ _, (set4_other _ (Ne.symm hne) _ _ _ _).trans h.x⟩
end

set_option maxRecDepth 100000 in
set_option maxHeartbeats 3200000 in
theorem plays_any (a : Option Addr) (n c : Nat) (fo : Nat → OpT) (w : World) (hu : Usages w) (hn : n ≤ 9223372036854775807) (hl : OpSl w a n fo) : Calls Tryz.prog 7 #[.slice a n c] w (TruePost w) := by
  have Hl := Lib.hid hl; clear hl
  have Hu := Lib.hid hu; clear hu
  go_enter Tryz.func7, Tryz.ntmps7
  go_wp2_with fail
  refine (pKnown_any _ Hu.out).mono ?_
  rintro e w1 ⟨rfl, hb1⟩
  have Hb1 := Lib.hid hb1; clear hb1
  have Hu1 := Lib.hid (Hu.out.below Hb1.out Hu.out.pos)
  have Hs1 : Hid (w.heap.size ≤ w1.heap.size) := Hb1.out.size
  go_wp2_with fail
  refine (stateNew_any w1).mono ?_
  rintro r w2 ⟨rfl, rfl⟩
  have HB2 : Hid (Below w1.heap.size w1 (w1.alloc (.cells #[.pointer none] 117))) := (Below.refl _ _).alloc (Nat.le_refl _) _
  have HN2 := Lib.hid (baseN_empty w1)
  have Hs2 : Hid ((w1.alloc (.cells #[.pointer none] 117)).heap.size = w1.heap.size + 1) := by show _ = _; simp
  generalize w1.alloc (.cells #[.pointer none] 117) = w2 at *
  go_wp2_with fail
  refine (qmNew (w0 := w1) (Hu1.out.below HB2.out Hu1.out.pos) HB2.out HN2.out).mono ?_
  rw [Hs2.out]
  rintro r w3 ⟨rfl, s3, -⟩
  have S3 := Lib.hid s3; clear s3 HN2 HB2 Hs2
  have HI0 : Hid (PpInv w1 (w3.alloc (.cells #[.int .i64 0, .int .i64 0, .int .i64 0, .string ⟨#[]⟩] 63)) w3.heap.size 0 zeroP) :=
    ⟨World.alloc_heap_new w3 _, ⟨⟨fun _ => none, [], []⟩, 0, S3.out.fresh ((Below.refl _ _).alloc (Nat.le_refl _) _) (fun j hj => .inr (by subst hj; simp)), ⟨rfl, Nat.zero_le _, fun _ => rfl, fun p e => by rw [optP_zero] at e; cases e⟩, Nat.le_refl _⟩⟩
  clear S3
  generalize hR : w3.heap.size = R at *
  go_wp2_with fail
  clear hR
  go_loopg [5] n (fun gk iv wr => ∃ (k : Nat) (p : PipeT), k + gk = n ∧ iv = .int .i64 k ∧ k ≤ 40 ∧ Hid (PpInv w1 wr R k p))
  case atStart => exact ⟨0, zeroP, by omega, rfl, by omega, HI0.out⟩
  case round =>
    clear HI0
    obtain ⟨k, p, hk, rfl, hk40, HI⟩ := hrel
    have Hk := Lib.hid hk
    have hkn : k ≤ n := by omega
    clear hk
    obtain ⟨V, N, hqm, hh, hN⟩ := HI.out.qm
    have S := Lib.hid hqm; clear hqm
    have HN := Lib.hid hN; clear hN
    have Hbx := Lib.hid HI.out.box
    clear HI
    by_cases hlt : k < n ∧ k < 40
    · obtain ⟨hlt, hlt40⟩ := hlt
      obtain ⟨g, off, rfl, hc⟩ := Hl.out.later Hb1.out (by omega)
      obtain ⟨c0, c1, c2, c3, c4, hkd, hnn, hss⟩ := hc k hlt
      clear hc
      generalize fo k = o at *
      obtain ⟨kd, oe, on, os_, ox⟩ := o
      dsimp only at *
      obtain ⟨pe, pr, pw, pb⟩ := p
      have Hrd : Hid (PReady V oneM 2) := hh.ready (by have := HN.out; omega)
      obtain ⟨hres, d, hd, hh2⟩ := holds_same hh kd oe on os_ ox
      obtain ⟨⟨⟨n0, n1, n2, n3⟩, ⟨rq, rn, ry, ⟨r3, r4, r5, r6⟩⟩⟩, hsm⟩ : ∃ z, smeR kd oe on os_ ox ⟨pe, pr, pw, pb⟩ = z := ⟨_, rfl⟩
      have Hsm : Hid (∀ W, Calls Tryz.prog 37 #[.agg #[.int .i64 pe, .int .i64 pr, .int .i64 pw, .string pb], .agg #[.int .u8 kd, .int .i64 oe, .int .i64 on, .string os_, .bool ox], .agg #[.int .i64 rq, .int .i64 rn, .string ry, .int .i64 r3, .int .i64 r4, .int .i64 r5, .string r6]] W (SmP W ⟨n0, n1, n2, n3⟩)) := fun W => by
        have h := same_any pe pr pw pb kd oe on os_ ox hkd hss W
        rw [hsm] at h
        exact h
      have Hdo : Hid (∀ W b G, QM w1 W b 0 V G → Calls Tryz.prog 38 #[.pointer (some ⟨b, 0, none⟩), .agg #[.int .u8 kd, .int .i64 oe, .int .i64 on, .string os_, .bool ox]] W (QMP w1 b 0 (doV V kd oe on os_ ox).1 G W (.agg #[.int .i64 rq, .int .i64 rn, .string ry, .int .i64 r3, .int .i64 r4, .int .i64 r5, .string r6]))) := fun W b G s => by
        have h := doV_any w1 W b 0 _ _ kd oe on os_ ox hkd s Hrd.out hnn hss
        rw [hres, hsm] at h
        exact h
      have Hh2 : Hid (HoldsP (doV V kd oe on os_ ox).1 (N + d) (optP ⟨n0, n1, n2, n3⟩)) := by show HoldsP _ _ _; rw [hsm] at hh2; exact hh2
      have Hd := Lib.hid hd
      clear hd hres hsm hh hh2 Hrd
      generalize (doV V kd oe on os_ ox).1 = V1 at *
      have Hglt : Hid (g < w1.heap.size) := World.block_lt_of_cell? w1 ⟨g, _, none⟩ c0
      have HC : Hid (∀ W, Below w1.heap.size w1 W → W.heap[R]? = some (.cells (pCells ⟨pe, pr, pw, pb⟩) 63 (0, 0)) → (W.cell? ⟨R, 0, none⟩ = some (.int .i64 pe) ∧ W.cell? ⟨R, 1, none⟩ = some (.int .i64 pr) ∧ W.cell? ⟨R, 2, none⟩ = some (.int .i64 pw) ∧ W.cell? ⟨R, 3, none⟩ = some (.string pb) ∧ W.cell? ⟨g, off + k * 5, none⟩ = some (.int .u8 kd) ∧ W.cell? ⟨g, off + k * 5 + 1, none⟩ = some (.int .i64 oe) ∧ W.cell? ⟨g, off + k * 5 + 2, none⟩ = some (.int .i64 on) ∧ W.cell? ⟨g, off + k * 5 + 3, none⟩ = some (.string os_) ∧ W.cell? ⟨g, off + k * 5 + 4, none⟩ = some (.bool ox))) := fun W hb hx =>
        ⟨cell_of_heap hx 0, cell_of_heap hx 1, cell_of_heap hx 2, cell_of_heap hx 3, ((bcell hb).1 g _ Hglt.out).trans c0, ((bcell hb).1 g _ Hglt.out).trans c1, ((bcell hb).1 g _ Hglt.out).trans c2, ((bcell hb).1 g _ Hglt.out).trans c3, ((bcell hb).1 g _ Hglt.out).trans c4⟩
      clear c0 c1 c2 c3 c4
      have S0 := Lib.hid (HC.out _ S.out.below Hbx.out)
      obtain ⟨q0, q1, q2, q3, q4, q5, q6, q7, q8⟩ := S0.out
      have Sd := Lib.hid (S.out.later (Below.drew (Below.refl _ _)))
      have SA : Hid (PpMid w1 (wr.drew.alloc (.cells #[.int .i64 0, .int .i64 0, .int .i64 0, .string ⟨#[]⟩] 63)) (w1.heap.size + 3) R wr.heap.size V ⟨pe, pr, pw, pb⟩ ⟨0, 0, 0, ⟨#[]⟩⟩) := PpMid.of Sd.out Hbx.out ⟨0, 0, 0, ⟨#[]⟩⟩
      have P1 : Hid ((wr.drew.alloc (.cells #[.int .i64 0, .int .i64 0, .int .i64 0, .string ⟨#[]⟩] 63)).cell? ⟨R, 0, none⟩ = some (.int .i64 pe) ∧ (wr.drew.alloc (.cells #[.int .i64 0, .int .i64 0, .int .i64 0, .string ⟨#[]⟩] 63)).cell? ⟨R, 1, none⟩ = some (.int .i64 pr) ∧ (wr.drew.alloc (.cells #[.int .i64 0, .int .i64 0, .int .i64 0, .string ⟨#[]⟩] 63)).cell? ⟨R, 2, none⟩ = some (.int .i64 pw) ∧ (wr.drew.alloc (.cells #[.int .i64 0, .int .i64 0, .int .i64 0, .string ⟨#[]⟩] 63)).cell? ⟨R, 3, none⟩ = some (.string pb) ∧ (wr.drew.alloc (.cells #[.int .i64 0, .int .i64 0, .int .i64 0, .string ⟨#[]⟩] 63)).cell? ⟨g, off + k * 5, none⟩ = some (.int .u8 kd) ∧ (wr.drew.alloc (.cells #[.int .i64 0, .int .i64 0, .int .i64 0, .string ⟨#[]⟩] 63)).cell? ⟨g, off + k * 5 + 1, none⟩ = some (.int .i64 oe) ∧ (wr.drew.alloc (.cells #[.int .i64 0, .int .i64 0, .int .i64 0, .string ⟨#[]⟩] 63)).cell? ⟨g, off + k * 5 + 2, none⟩ = some (.int .i64 on) ∧ (wr.drew.alloc (.cells #[.int .i64 0, .int .i64 0, .int .i64 0, .string ⟨#[]⟩] 63)).cell? ⟨g, off + k * 5 + 3, none⟩ = some (.string os_) ∧ (wr.drew.alloc (.cells #[.int .i64 0, .int .i64 0, .int .i64 0, .string ⟨#[]⟩] 63)).cell? ⟨g, off + k * 5 + 4, none⟩ = some (.bool ox)) := HC.out _ SA.out.qm.below SA.out.r
      have HRlt : Hid (R < wr.heap.size) := lt_of_heap Hbx.out
      go_wp2_with fail
      go_region_held3 (fun W => W.cell? ⟨R, 0, none⟩ = some (.int .i64 pe) ∧ W.cell? ⟨R, 1, none⟩ = some (.int .i64 pr) ∧ W.cell? ⟨R, 2, none⟩ = some (.int .i64 pw) ∧ W.cell? ⟨R, 3, none⟩ = some (.string pb) ∧ W.cell? ⟨g, off + k * 5, none⟩ = some (.int .u8 kd) ∧ W.cell? ⟨g, off + k * 5 + 1, none⟩ = some (.int .i64 oe) ∧ W.cell? ⟨g, off + k * 5 + 2, none⟩ = some (.int .i64 on) ∧ W.cell? ⟨g, off + k * 5 + 3, none⟩ = some (.string os_) ∧ W.cell? ⟨g, off + k * 5 + 4, none⟩ = some (.bool ox)) (first | with_reducible exact S0.out | with_reducible exact P1.out | with_reducible exact P2.out | with_reducible exact P2a.out _ | with_reducible exact P3.out | with_reducible exact P3a.out _ | with_reducible exact PF.out | go_keep)
        (first
          | (go_at_call 38; refine (Hdo.out _ _ _ SA.out.qm).mono ?_; rintro r w4 ⟨rfl, s4, hk4⟩; have M4 : Hid (PpMid w1 w4 (w1.heap.size + 3) R wr.heap.size V1 ⟨pe, pr, pw, pb⟩ ⟨0, 0, 0, ⟨#[]⟩⟩) := ⟨s4, (hk4 _ (.inl rfl)).trans SA.out.r, (hk4 _ (.inr rfl)).trans SA.out.x⟩; clear s4 hk4; have P2 := Lib.hid (HC.out _ M4.out.qm.below M4.out.r))
          | (go_at_call 38; refine (Hdo.out _ _ _ Sd.out).mono ?_; rintro r w4 ⟨rfl, s4, hk4⟩; have N4 := Lib.hid s4; have NX4 : Hid (w4.heap[R]? = some (.cells (pCells ⟨pe, pr, pw, pb⟩) 63 (0, 0))) := (hk4 R rfl).trans Hbx.out; clear s4 hk4; have P2 := Lib.hid (HC.out _ N4.out.below NX4.out); have P2a : Hid (∀ o, ((w4.alloc o).cell? ⟨R, 0, none⟩ = some (.int .i64 pe) ∧ (w4.alloc o).cell? ⟨R, 1, none⟩ = some (.int .i64 pr) ∧ (w4.alloc o).cell? ⟨R, 2, none⟩ = some (.int .i64 pw) ∧ (w4.alloc o).cell? ⟨R, 3, none⟩ = some (.string pb) ∧ (w4.alloc o).cell? ⟨g, off + k * 5, none⟩ = some (.int .u8 kd) ∧ (w4.alloc o).cell? ⟨g, off + k * 5 + 1, none⟩ = some (.int .i64 oe) ∧ (w4.alloc o).cell? ⟨g, off + k * 5 + 2, none⟩ = some (.int .i64 on) ∧ (w4.alloc o).cell? ⟨g, off + k * 5 + 3, none⟩ = some (.string os_) ∧ (w4.alloc o).cell? ⟨g, off + k * 5 + 4, none⟩ = some (.bool ox))) := fun o => HC.out _ (N4.out.below.alloc N4.out.below.size o) ((Below.heap_alloc _ _ _ (lt_of_heap NX4.out)).trans NX4.out))
          | (go_at_call 37; have _t := M4; clear _t; refine (Hsm.out _).mono ?_; rintro r w5 ⟨rfl, hb5⟩; have M5 := Lib.hid (M4.out.later hb5); clear hb5 M4; have P3 := Lib.hid (HC.out _ M5.out.qm.below M5.out.r); have F := Lib.hid (M5.out.store (by have := HRlt.out; omega) ⟨n0, n1, n2, n3⟩); dsimp only at F; have PF := Lib.hid (HC.out _ F.out.qm.below F.out.r); have xf : ∀ i, w5.frozen? ⟨wr.heap.size, i, none⟩ = false := fun i => frozen_of_heap M5.out.x i; have x0 : w5.cell? ⟨wr.heap.size, 0, none⟩ = some (.int .i64 0) := cell_of_heap M5.out.x 0; have x1 : w5.cell? ⟨wr.heap.size, 1, none⟩ = some (.int .i64 0) := cell_of_heap M5.out.x 1; have x2 : w5.cell? ⟨wr.heap.size, 2, none⟩ = some (.int .i64 0) := cell_of_heap M5.out.x 2; have x3 : w5.cell? ⟨wr.heap.size, 3, none⟩ = some (.string ⟨#[]⟩) := cell_of_heap M5.out.x 3)
          | (go_at_call 37; have _t := N4; clear _t; refine (Hsm.out (w4.alloc (.cells #[.int .i64 0, .int .i64 0, .int .i64 0, .string ⟨#[]⟩] 63))).mono ?_; rintro r w5 ⟨rfl, hb5⟩; have M5 := Lib.hid ((PpMid.of N4.out NX4.out ⟨0, 0, 0, ⟨#[]⟩⟩).later hb5); have HRlt4 := Lib.hid (lt_of_heap NX4.out); clear hb5 N4 NX4; have P3 := Lib.hid (HC.out _ M5.out.qm.below M5.out.r); have F := Lib.hid (M5.out.store (by have := HRlt4.out; omega) ⟨n0, n1, n2, n3⟩); dsimp only at F; have PF := Lib.hid (HC.out _ F.out.qm.below F.out.r); have xf : ∀ i, w5.frozen? ⟨w4.heap.size, i, none⟩ = false := fun i => frozen_of_heap M5.out.x i; have x0 : w5.cell? ⟨w4.heap.size, 0, none⟩ = some (.int .i64 0) := cell_of_heap M5.out.x 0; have x1 : w5.cell? ⟨w4.heap.size, 1, none⟩ = some (.int .i64 0) := cell_of_heap M5.out.x 1; have x2 : w5.cell? ⟨w4.heap.size, 2, none⟩ = some (.int .i64 0) := cell_of_heap M5.out.x 2; have x3 : w5.cell? ⟨w4.heap.size, 3, none⟩ = some (.string ⟨#[]⟩) := cell_of_heap M5.out.x 3)
          | (go_at_call 37; have _t := N4; clear _t; refine (Hsm.out w4).mono ?_; rintro r w5 ⟨rfl, hb5⟩; have N5 := Lib.hid (N4.out.later hb5); have NX5 : Hid (w5.heap[R]? = some (.cells (pCells ⟨pe, pr, pw, pb⟩) 63 (0, 0))) := (hb5.block _ (lt_of_heap NX4.out)).trans NX4.out; clear hb5 N4 NX4; have P3 := Lib.hid (HC.out _ N5.out.below NX5.out); have F := Lib.hid (PpMid.of N5.out NX5.out ⟨n0, n1, n2, n3⟩); have HRlt5 := Lib.hid (lt_of_heap NX5.out); have P3a : Hid (∀ o, ((w5.alloc o).cell? ⟨R, 0, none⟩ = some (.int .i64 pe) ∧ (w5.alloc o).cell? ⟨R, 1, none⟩ = some (.int .i64 pr) ∧ (w5.alloc o).cell? ⟨R, 2, none⟩ = some (.int .i64 pw) ∧ (w5.alloc o).cell? ⟨R, 3, none⟩ = some (.string pb) ∧ (w5.alloc o).cell? ⟨g, off + k * 5, none⟩ = some (.int .u8 kd) ∧ (w5.alloc o).cell? ⟨g, off + k * 5 + 1, none⟩ = some (.int .i64 oe) ∧ (w5.alloc o).cell? ⟨g, off + k * 5 + 2, none⟩ = some (.int .i64 on) ∧ (w5.alloc o).cell? ⟨g, off + k * 5 + 3, none⟩ = some (.string os_) ∧ (w5.alloc o).cell? ⟨g, off + k * 5 + 4, none⟩ = some (.bool ox))) := fun o => HC.out _ (N5.out.below.alloc N5.out.below.size o) ((Below.heap_alloc _ _ _ (lt_of_heap NX5.out)).trans NX5.out))
          | fail)
      all_goals
        clear q0 q1 q2 q3 q4 q5 q6 q7 q8 S0 Sd SA P1 P2 P3 HC Hsm Hdo Hglt S Hbx
        first
          | generalize ((((w5.setCell ⟨wr.heap.size, 0, none⟩ (.int .i64 n0)).setCell ⟨wr.heap.size, 1, none⟩ (.int .i64 n1)).setCell ⟨wr.heap.size, 2, none⟩ (.int .i64 n2)).setCell ⟨wr.heap.size, 3, none⟩ (.string n3)) = w6 at *
          | generalize ((((w5.setCell ⟨w4.heap.size, 0, none⟩ (.int .i64 n0)).setCell ⟨w4.heap.size, 1, none⟩ (.int .i64 n1)).setCell ⟨w4.heap.size, 2, none⟩ (.int .i64 n2)).setCell ⟨w4.heap.size, 3, none⟩ (.string n3)) = w6 at *
          | generalize w5.alloc (.cells #[.int .i64 n0, .int .i64 n1, .int .i64 n2, .string n3] 63) = w6 at *
        have y0 := cell_of_heap F.out.x 0
        have y1 := cell_of_heap F.out.x 1
        have y2 := cell_of_heap F.out.x 2
        have y3 := cell_of_heap F.out.x 3
        dsimp [pCells] at y0 y1 y2 y3
        go_wp2_with fail
        refine (is_any w1 _ _ 0 V1 _ (N + d) n0 n1 n2 n3 F.out.qm Hh2.out).mono ?_
        rintro r w7 ⟨rfl, s7, hk7⟩
        have M7 := Lib.hid (PpMid.mk s7 ((hk7 _ (.inl rfl)).trans F.out.r) ((hk7 _ (.inr rfl)).trans F.out.x))
        clear s7 hk7 F y0 y1 y2 y3
        have y0 := cell_of_heap M7.out.x 0
        have y1 := cell_of_heap M7.out.x 1
        have y2 := cell_of_heap M7.out.x 2
        have y3 := cell_of_heap M7.out.x 3
        have z0 := cell_of_heap M7.out.r 0
        have z1 := cell_of_heap M7.out.r 1
        have z2 := cell_of_heap M7.out.r 2
        have z3 := cell_of_heap M7.out.r 3
        have zf : ∀ i, w7.frozen? ⟨R, i, none⟩ = false := fun i => frozen_of_heap M7.out.r i
        dsimp [pCells] at y0 y1 y2 y3 z0 z1 z2 z3
        have HE := Lib.hid (M7.out.put (by first | exact Nat.ne_of_lt HRlt5.out | exact Nat.ne_of_lt HRlt4.out | exact Nat.ne_of_lt HRlt.out) ⟨n0, n1, n2, n3⟩)
        dsimp only at HE
        clear M7
        go_wp2
        go_roundg (n - (k + 1))
        case measure => have := Hk.out; omega
        case rel => exact ⟨k + 1, ⟨n0, n1, n2, n3⟩, by have := Hk.out; omega, by go_num, by omega, HE.out.r, _, N + d, HE.out.qm.fresh (Below.refl _ _) (fun j h => .inl (.inl h)), Hh2.out.seen, by have := HN.out; have := Hd.out; omega⟩
    · have hways : ¬ k < n ∨ (k < n ∧ ¬ k < 40) := by omega
      clear hlt
      have HB3 : Hid (Below w.heap.size w wr) := Hb1.out.trans (S.out.below.mono Hs1.out)
      have Hu3 := Lib.hid S.out.usages
      clear S hh Hbx HN
      rcases hways with h5 | ⟨h5, h5'⟩
      all_goals
        go_wp2_with fail
        refine (play_any a n c fo wr Hu3.out hn (Hl.out.later HB3.out)).mono ?_
        rintro r w8 ⟨sp, ⟨e0, e1, e2, e3⟩, f8, rfl, hb8, hbn8, hh8, -, -, hu8⟩
        have HB8 : Hid (Below w.heap.size w w8) := HB3.out.trans (hb8.mono HB3.out.size)
        have Hbw : Hid (Below w8.heap.size w8 (w8.alloc (.cells #[.int .i64 e0, .int .i64 e1, .int .i64 e2, .string e3] 63)).drew) := ((Below.refl _ _).alloc (Nat.le_refl _) _).drew
        have Hbn9 : Hid (BaseN 40 (w8.alloc (.cells #[.int .i64 e0, .int .i64 e1, .int .i64 e2, .string e3] 63)).drew.heap.size (w8.alloc (.cells #[.int .i64 e0, .int .i64 e1, .int .i64 e2, .string e3] 63)).drew sp f8) := (hbn8.later Hbw.out).up Hbw.out.size
        have Hu9 : Hid (Usages (w8.alloc (.cells #[.int .i64 e0, .int .i64 e1, .int .i64 e2, .string e3] 63)).drew) := hu8.below Hbw.out hu8.pos
        have Hh8 := Lib.hid hh8
        have HX8 := Lib.hid (heap_alloc_new w8 (.cells #[.int .i64 e0, .int .i64 e1, .int .i64 e2, .string e3] 63))
        have HB9 : Hid (Below w.heap.size w (w8.alloc (.cells #[.int .i64 e0, .int .i64 e1, .int .i64 e2, .string e3] 63)).drew) := HB8.out.trans (Hbw.out.mono HB8.out.size)
        clear hb8 hbn8 hh8 hu8 HB3 Hu3
        go_wp2_with fail
        generalize hX : w8.heap.size = X at *
        generalize w8.alloc (.cells #[.int .i64 e0, .int .i64 e1, .int .i64 e2, .string e3] 63) = w9 at *
        have z0 : w9.cell? ⟨X, 0, none⟩ = some (.int .i64 e0) := cell_of_heap HX8.out 0
        have z1 : w9.cell? ⟨X, 1, none⟩ = some (.int .i64 e1) := cell_of_heap HX8.out 1
        have z2 : w9.cell? ⟨X, 2, none⟩ = some (.int .i64 e2) := cell_of_heap HX8.out 2
        have z3 : w9.cell? ⟨X, 3, none⟩ = some (.string e3) := cell_of_heap HX8.out 3
        have HC : Hid (∀ W, Below w9.drew.heap.size w9.drew W → (W.cell? ⟨X, 0, none⟩ = some (.int .i64 e0) ∧ W.cell? ⟨X, 1, none⟩ = some (.int .i64 e1) ∧ W.cell? ⟨X, 2, none⟩ = some (.int .i64 e2) ∧ W.cell? ⟨X, 3, none⟩ = some (.string e3))) := fun W hb => by
          have hx := (hb.block _ (lt_of_heap HX8.out)).trans HX8.out
          exact ⟨cell_of_heap hx 0, cell_of_heap hx 1, cell_of_heap hx 2, cell_of_heap hx 3⟩
        have S0 := Lib.hid (HC.out _ (Below.refl _ _))
        go_region_held3 (fun W => W.cell? ⟨X, 0, none⟩ = some (.int .i64 e0) ∧ W.cell? ⟨X, 1, none⟩ = some (.int .i64 e1) ∧ W.cell? ⟨X, 2, none⟩ = some (.int .i64 e2) ∧ W.cell? ⟨X, 3, none⟩ = some (.string e3)) (first | with_reducible exact S0.out | with_reducible exact S1.out | with_reducible exact S2.out | go_keep)
          (first
            | (go_at_call 17; refine (qmNew (w0 := w9.drew) Hu9.out (Below.refl _ _) Hbn9.out).mono ?_; rintro r w10 ⟨rfl, s10, -⟩; have T10 := Lib.hid s10; clear s10; have S1 := Lib.hid (HC.out _ T10.out.below))
            | (go_at_call 39; refine (is_any w9.drew _ _ 40 _ _ 0 e0 e1 e2 e3 T10.out Hh8.out).mono ?_; rintro r w11 ⟨rfl, s11, -⟩; have T11 := Lib.hid s11; clear s11; have S2 := Lib.hid (HC.out _ T11.out.below))
            | fail)
        have HF : Hid (Below w.heap.size w w11) := HB9.out.trans (T11.out.below.mono HB9.out.size)
        go_wp2
        go_ret
        exact ⟨rfl, HF.out⟩
end Go.Proofs.YtemmeopaihmlcaaGreatDoor
