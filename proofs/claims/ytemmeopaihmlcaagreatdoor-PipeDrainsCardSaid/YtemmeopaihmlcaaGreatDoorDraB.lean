/- Law 32: PipeDrains, the walk. -/
import Derived.Test.YtemmeopaihmlcaaGreatDoorDraA
namespace Go.Proofs.YtemmeopaihmlcaaGreatDoor
open Go.RowKit
attribute [local go_sem ↓] Go.wp_at_zero Go.wp_at_succ

/-- Between two rounds of the first loop. -/
structure DrI (w9 wr : World) (b : Nat) (e0 e1 e2 : Int) (e3 : ByteArray) (k : Nat) : Prop where
  sp : SP w9 wr b k (some ⟨e0, e1, e2 - k, e3⟩) (fun _ => False)
/-- Between two rounds of the second loop. -/
structure DrJ (w9 wr : World) (b : Nat) (e0 e1 : Int) (e3 out : ByteArray) (k : Nat) : Prop where
  ex : ∃ by_ N, SP w9 wr b N (some ⟨e0, e1, 0, by_⟩) (fun _ => False) ∧ N ≤ 100 + k ∧ e3 = out ++ by_ ∧ by_.size ≤ 256 - k
/-- A view and the box of a pipe. -/
structure DrK (w9 W : World) (b N X : Nat) (o : Option PipeT) (q : PipeT) : Prop where
  sp : SP w9 W b N o (fun j => j = X)
  x : W.heap[X]? = some (.cells (pCells q) 66 (0, 0))
section
variable {w9 W W' : World} {b N X : Nat} {o : Option PipeT} {q : PipeT}
theorem DrK.of (s : SP w9 W b N o (fun _ => False)) (q : PipeT) : DrK w9 (W.alloc (.cells (pCells q) 66)) b N W.heap.size o q :=
  ⟨s.fresh ((Below.refl _ _).alloc (Nat.le_refl _) _) (fun k hk => .inr (by subst hk; simp)), World.alloc_heap_new W _⟩
theorem DrK.later (h : DrK w9 W b N X o q) (hb : Below W.heap.size W W') : DrK w9 W' b N X o q := ⟨h.sp.later hb, (hb.block _ (lt_of_heap h.x)).trans h.x⟩
theorem DrK.store (h : DrK w9 W b N X o q) (q' : PipeT) : DrK w9 ((((W.setCell ⟨X, 0, none⟩ (.int .i64 q'.epoch)).setCell ⟨X, 1, none⟩ (.int .i64 q'.readers)).setCell ⟨X, 2, none⟩ (.int .i64 q'.writers)).setCell ⟨X, 3, none⟩ (.string q'.bytes)) b N X o q' :=
  ⟨h.sp.guarded (Kept.of_grown (pGrown_set4 W X _ _ _ _) _ (fun k hk => by cases hk; rfl)) (fun k hk => .inl hk), set4 h.x _ _ _ _⟩
end

set_option maxRecDepth 100000 in
set_option maxHeartbeats 3200000 in
theorem drains_any (a : Option Addr) (n c : Nat) (fo : Nat → OpT) (mo : Nat) (w : World) (hu : Usages w) (hn : n ≤ 9223372036854775807) (hmo : mo ≤ 65535) (hl : OpSl w a n fo) : Calls Tryz.prog 8 #[.slice a n c, .int .u16 mo] w (TruePost w) := by
  have Hl := Lib.hid hl; clear hl
  have Hu := Lib.hid hu; clear hu
  go_enter Tryz.func8, Tryz.ntmps8
  go_wp2_with fail
  refine (pKnown_any _ Hu.out).mono ?_
  rintro e w1 ⟨rfl, hb1⟩
  have Hb1 := Lib.hid hb1; clear hb1
  have Hu1 := Lib.hid (Hu.out.below Hb1.out Hu.out.pos)
  have Hs1 : Hid (w.heap.size ≤ w1.heap.size) := Hb1.out.size
  go_wp2_with fail
  refine (play_any a n c fo w1 Hu1.out hn (Hl.out.later Hb1.out)).mono ?_
  rintro r w8 ⟨sp, ⟨e0, e1, e2, e3⟩, f8, rfl, hb8, hbn8, hh8, hpz, -, hu8⟩
  have HB9 : Hid (Below w.heap.size w (w8.alloc (.cells #[.int .i64 e0, .int .i64 e1, .int .i64 e2, .string e3] 63))) := (Hb1.out.trans (hb8.mono Hs1.out)).alloc (Nat.le_trans Hs1.out hb8.size) _
  have Hbw : Hid (Below w8.heap.size w8 (w8.alloc (.cells #[.int .i64 e0, .int .i64 e1, .int .i64 e2, .string e3] 63))) := (Below.refl _ _).alloc (Nat.le_refl _) _
  have Hbn9 : Hid (BaseN 40 (w8.alloc (.cells #[.int .i64 e0, .int .i64 e1, .int .i64 e2, .string e3] 63)).heap.size (w8.alloc (.cells #[.int .i64 e0, .int .i64 e1, .int .i64 e2, .string e3] 63)) sp f8) := (hbn8.later Hbw.out).up Hbw.out.size
  have Hu9 : Hid (Usages (w8.alloc (.cells #[.int .i64 e0, .int .i64 e1, .int .i64 e2, .string e3] 63))) := hu8.below Hbw.out hu8.pos
  have HX8 := Lib.hid (heap_alloc_new w8 (.cells #[.int .i64 e0, .int .i64 e1, .int .i64 e2, .string e3] 63))
  have Hh8 := Lib.hid hh8
  have Hpz := Lib.hid hpz
  clear hb8 hbn8 hh8 hpz hu8 Hbw Hu1 Hb1
  by_cases hr0 : e1 = 0
  · have hr0' : (e1 == 0) = true := by rw [hr0]; rfl
    clear hr0
    go_wp2
    go_ret
    exact ⟨rfl, HB9.out⟩
  have hr0' : (e1 == 0) = false := beq_eq_false_iff_ne.2 hr0
  have hck := play_some Hpz.out hr0
  obtain ⟨hep, hre, hwr, hno, hby⟩ := checkP_ok hck
  dsimp only at hep hre hwr hno hby
  have Hep : Hid (pEpochB e0 = true) := decide_eq_true hep
  have He1 : Hid (0 < e1) := by show _ < _; omega
  have Hh9 : Hid (HoldsP ⟨f8, [], []⟩ 0 (some ⟨e0, e1, e2, e3⟩)) := by
    have h := Hh8.out
    rw [optP_ok hck] at h
    exact h
  obtain ⟨nw, rfl⟩ := Int.eq_ofNat_of_zero_le hwr.1
  have hnw : nw ≤ 64 := by omega
  have Hby := Lib.hid hby
  clear hby hno hwr hre hep hck Hh8 Hpz hr0
  go_wp2_with fail
  generalize hX : w8.heap.size = X at *
  generalize w8.alloc (.cells #[.int .i64 e0, .int .i64 e1, .int .i64 nw, .string e3] 63) = w9 at *
  refine (qmNew (w0 := w9) Hu9.out (Below.refl _ _) Hbn9.out).mono ?_
  rintro r w10 ⟨rfl, s10, -⟩
  have I0 : Hid (DrI w9 w10 (w9.heap.size + 2) e0 e1 (nw : Int) e3 0) := ⟨by simpa using s10.sp Hh9.out⟩
  clear s10 Hh9 Hbn9 Hu9
  -- what is read of the pipe's box in every later world
  have HC : Hid (∀ W, Below w9.heap.size w9 W → W.cell? ⟨X, 0, none⟩ = some (.int .i64 e0) ∧ W.cell? ⟨X, 1, none⟩ = some (.int .i64 e1) ∧ W.cell? ⟨X, 2, none⟩ = some (.int .i64 nw) ∧ W.cell? ⟨X, 3, none⟩ = some (.string e3)) := fun W hb => by
    have hx := (hb.block _ (lt_of_heap HX8.out)).trans HX8.out
    exact ⟨cell_of_heap hx 0, cell_of_heap hx 1, cell_of_heap hx 2, cell_of_heap hx 3⟩
  clear HX8 hX
  generalize hB : w9.heap.size + 2 = b at *
  go_wp2_with fail
  go_loopg [9] nw (fun gk iv wr => ∃ (k : Nat), k + gk = nw ∧ iv = .int .i64 k ∧ Hid (DrI w9 wr b e0 e1 (nw : Int) e3 k))
  case atStart => exact ⟨0, by omega, rfl, I0.out⟩
  case round =>
    clear I0
    obtain ⟨k, hk, rfl, I⟩ := hrel
    have Hk := Lib.hid hk
    have hkn : k ≤ nw := by omega
    clear hk
    obtain ⟨z0, z1, z2, z3⟩ := HC.out _ I.out.sp.below
    by_cases hlt : k < nw
    · go_wp2_with fail
      have Id := Lib.hid (I.out.sp.later (Below.drew (Below.refl _ _)))
      have S0 : Hid (wr.cell? ⟨X, 0, none⟩ = some (.int .i64 e0)) := z0
      go_region_held3 (fun W => W.cell? ⟨X, 0, none⟩ = some (.int .i64 e0)) (first | with_reducible exact S0.out | with_reducible exact S1.out | with_reducible exact S2.out | go_keep)
        (first
          | (go_at_call 28; refine (one_any _).mono ?_; rintro r w11 ⟨rfl, hb⟩; have T1 := Lib.hid (Id.out.later hb); clear hb; have S1 := Lib.hid (HC.out _ T1.out.below).1)
          | (go_at_call 36; refine (spLeave w9 w11 b k _ _ e0 T1.out (by omega) Hep.out true _ 0 1 (leave_step He1.out (by omega))).mono ?_; rintro r w12 ⟨rfl, s12, -⟩; have T2 := Lib.hid s12; clear s12; have S2 := Lib.hid (HC.out _ T2.out.below).1)
          | fail)
      have HI : Hid (DrI w9 w12 b e0 e1 (nw : Int) e3 (k + 1)) := ⟨by have h := T2.out; rw [show (nw : Int) - ((k + 1 : Nat) : Int) = (nw : Int) - (k : Int) - 1 by omega]; exact h⟩
      clear T2 T1 Id I
      go_wp2
      go_roundg (nw - (k + 1))
      case measure => have := Hk.out; omega
      case rel => exact ⟨k + 1, by have := Hk.out; omega, by go_num, HI.out⟩
    · obtain rfl : k = nw := by omega
      have I1 : Hid (SP w9 wr b k (some ⟨e0, e1, 0, e3⟩) (fun _ => False)) := by have h := I.out.sp; rw [Int.sub_self] at h; exact h
      have J0 : Hid (DrJ w9 wr b e0 e1 e3 ⟨#[]⟩ 0) := ⟨⟨e3, k, I1.out, by omega, (emp_append e3).symm, Hby.out⟩⟩
      clear I I1
      obtain ⟨m, hm, hm1, hm300⟩ : ∃ m : Nat, (1 + (mo : Int) % 300) = (m : Int) ∧ 1 ≤ m ∧ m ≤ 300 := ⟨1 + mo % 300, by omega, by omega, by omega⟩
      go_wp2_with fail
      clear hm
      go_loopg [10, 12] 257 (fun gk ov iv wr => ∃ (k2 : Nat) (out : ByteArray), k2 + gk = 257 ∧ iv = .int .i64 k2 ∧ ov = .string out ∧ Hid (DrJ w9 wr b e0 e1 e3 out k2))
      case atStart => exact ⟨0, ⟨#[]⟩, by omega, rfl, rfl, J0.out⟩
      case round =>
        clear J0
        obtain ⟨k2, out, hk2, rfl, rfl, J⟩ := hrel
        have Hk2 := Lib.hid hk2
        have hk2n : k2 ≤ 257 := by omega
        clear hk2
        obtain ⟨by_, N, sp, hN, hio, hsz⟩ := J.out.ex
        have S := Lib.hid sp; clear sp J
        have Hio := Lib.hid hio; clear hio
        have Hsz := Lib.hid hsz; clear hsz
        have HN := Lib.hid hN; clear hN
        obtain ⟨z0, z1, z2, z3⟩ := HC.out _ S.out.below
        have Id := Lib.hid (S.out.later (Below.drew (Below.refl _ _)))
        have S0 : Hid (wr.cell? ⟨X, 0, none⟩ = some (.int .i64 e0)) := z0
        by_cases hlt2 : (k2 : Int) ≤ 256
        · obtain ⟨e3', d, hd, hst, hcat, hsz', hle, hle2⟩ := drain_step (e0 := e0) (e1 := e1) (n := (m : Int)) (e3 := by_) He1.out (by omega)
          obtain ⟨x, hx⟩ : ∃ x, readB (m : Int) ⟨e0, e1, 0, by_⟩ = x := ⟨_, rfl⟩
          rw [hx] at hcat hle hle2
          have hgt : decide ((m : Int) < (x.size : Int)) = false := decide_eq_false (by omega)
          have hos : out.size ≤ 256 := by
            have h1 := Hby.out
            rw [Hio.out, ByteArray.size_append] at h1
            omega
          have hxs : x.size ≤ 256 := by have := Hsz.out; omega
          have Hst := Lib.hid hst
          have Hrd : Hid ((if (0 : Nat) = 0 then readB (m : Int) (pHas e0 (some ⟨e0, e1, 0, by_⟩)).1 else ⟨#[]⟩) = x) := by show _ = _; rw [if_pos rfl, pStep_read_get]; exact hx
          have HJ : Hid (∀ W, SP w9 W b (N + d) (some ⟨e0, e1, 0, e3'⟩) (fun _ => False) → DrJ w9 W b e0 e1 e3 (out ++ x) (k2 + 1)) := fun W h => ⟨e3', N + d, h, by have := HN.out; omega, by rw [Hio.out, hcat, ByteArray.append_assoc], by have := Hsz.out; omega⟩
          have HN6 : Hid (N < 1000000) := by show _ < _; have := HN.out; omega
          have hm9 : (m : Int) ≤ 9223372036854775807 := by omega
          clear hd hst hcat hsz' hle hle2 hx
          go_wp2_with fail
          go_region_held3 (fun W => W.cell? ⟨X, 0, none⟩ = some (.int .i64 e0)) (first | with_reducible exact S0.out | with_reducible exact S1.out | with_reducible exact S2.out | go_keep)
            (first
              | (go_at_call 28; refine (one_any _).mono ?_; rintro r w11 ⟨rfl, hb⟩; have T1 := Lib.hid (Id.out.later hb); clear hb; have S1 := Lib.hid (HC.out _ T1.out.below).1)
              | (go_at_call 32; refine (spRead w9 w11 b N _ _ e0 T1.out HN6.out Hep.out (m : Int) hm9 _ 0 d Hst.out x Hrd.out).mono ?_; rintro r w12 ⟨rfl, s12, -⟩; have T2 := Lib.hid s12; clear s12; have S2 := Lib.hid (HC.out _ T2.out.below).1)
              | fail)
          have HI := Lib.hid (HJ.out _ T2.out)
          clear T2 T1 Id S HJ Hst Hrd Hio
          go_wp2
          · exfalso
            have := of_decide_eq_false hgt
            omega
          go_roundg (257 - (k2 + 1))
          case measure => have := Hk2.out; omega
          case rel => exact ⟨k2 + 1, _, by have := Hk2.out; omega, by go_num, rfl, HI.out⟩
        · have hb0 : by_ = ⟨#[]⟩ := empty_bytes (by have := Hsz.out; omega)
          subst hb0
          obtain rfl : e3 = out := by rw [Hio.out]; exact append_emp rfl
          clear Hio Hsz
          have HN6 : Hid (N < 1000000) := by show _ < _; have := HN.out; omega
          have SA : Hid (DrK w9 (wr.drew.alloc (.cells #[.int .i64 0, .int .i64 0, .int .i64 0, .string ⟨#[]⟩] 66)) b N wr.heap.size (some ⟨e0, e1, 0, ⟨#[]⟩⟩) ⟨0, 0, 0, ⟨#[]⟩⟩) := DrK.of Id.out ⟨0, 0, 0, ⟨#[]⟩⟩
          have P0 : Hid (wr.cell? ⟨X, 0, none⟩ = some (.int .i64 e0)) := z0
          have PA : Hid (∀ o, (wr.drew.alloc o).cell? ⟨X, 0, none⟩ = some (.int .i64 e0)) := fun o => (HC.out _ (Id.out.below.alloc Id.out.below.size o)).1
          have Hpg : Hid (pHas e0 (some ⟨e0, e1, 0, ⟨#[]⟩⟩) = (⟨e0, e1, 0, ⟨#[]⟩⟩, 0)) := pStep_read_get
          go_wp2_with fail
          go_region_held3 (fun W => W.cell? ⟨X, 0, none⟩ = some (.int .i64 e0)) (first | with_reducible exact P0.out | with_reducible exact PA.out _ | with_reducible exact P1.out | with_reducible exact P1a.out _ | with_reducible exact P2.out | with_reducible exact P2a.out _ | with_reducible exact PF.out | go_keep)
            (first
              | (go_at_call 28; refine (one_any (wr.drew.alloc (.cells #[.int .i64 0, .int .i64 0, .int .i64 0, .string ⟨#[]⟩] 66))).mono ?_; rintro r w4 ⟨rfl, hb4⟩; have M4 := Lib.hid (SA.out.later hb4); clear hb4; have P1 := Lib.hid (HC.out _ M4.out.sp.below).1)
              | (go_at_call 28; refine (one_any wr.drew).mono ?_; rintro r w4 ⟨rfl, hb4⟩; have N4 := Lib.hid (Id.out.later hb4); clear hb4; have P1 := Lib.hid (HC.out _ N4.out.below).1; have P1a : Hid (∀ o, (w4.alloc o).cell? ⟨X, 0, none⟩ = some (.int .i64 e0)) := fun o => (HC.out _ (N4.out.below.alloc N4.out.below.size o)).1)
              | (go_at_call 30; have _t := M4; clear _t; refine (spGet w9 w4 b N _ _ e0 M4.out.sp Hep.out ⟨e0, e1, 0, ⟨#[]⟩⟩ 0 Hpg.out).mono ?_; rintro r w5 ⟨rfl, s5, hk5⟩; have M5 : Hid (DrK w9 w5 b N wr.heap.size (some ⟨e0, e1, 0, ⟨#[]⟩⟩) ⟨0, 0, 0, ⟨#[]⟩⟩) := ⟨s5, (hk5 _ rfl).trans M4.out.x⟩; clear s5 hk5 M4; have P2 := Lib.hid (HC.out _ M5.out.sp.below).1; have F := Lib.hid (M5.out.store ⟨e0, e1, 0, ⟨#[]⟩⟩); dsimp only at F; have PF := Lib.hid (HC.out _ F.out.sp.below).1; have xf : ∀ i, w5.frozen? ⟨wr.heap.size, i, none⟩ = false := fun i => frozen_of_heap M5.out.x i; have x0 : w5.cell? ⟨wr.heap.size, 0, none⟩ = some (.int .i64 0) := cell_of_heap M5.out.x 0; have x1 : w5.cell? ⟨wr.heap.size, 1, none⟩ = some (.int .i64 0) := cell_of_heap M5.out.x 1; have x2 : w5.cell? ⟨wr.heap.size, 2, none⟩ = some (.int .i64 0) := cell_of_heap M5.out.x 2; have x3 : w5.cell? ⟨wr.heap.size, 3, none⟩ = some (.string ⟨#[]⟩) := cell_of_heap M5.out.x 3; dsimp only [pipeV])
              | (go_at_call 30; have _t := N4; clear _t; refine (spGet w9 (w4.alloc (.cells #[.int .i64 0, .int .i64 0, .int .i64 0, .string ⟨#[]⟩] 66)) b N _ _ e0 (DrK.of N4.out ⟨0, 0, 0, ⟨#[]⟩⟩).sp Hep.out ⟨e0, e1, 0, ⟨#[]⟩⟩ 0 Hpg.out).mono ?_; rintro r w5 ⟨rfl, s5, hk5⟩; have M5 : Hid (DrK w9 w5 b N w4.heap.size (some ⟨e0, e1, 0, ⟨#[]⟩⟩) ⟨0, 0, 0, ⟨#[]⟩⟩) := ⟨s5, (hk5 _ rfl).trans (DrK.of N4.out ⟨0, 0, 0, ⟨#[]⟩⟩).x⟩; clear s5 hk5 N4; have P2 := Lib.hid (HC.out _ M5.out.sp.below).1; have F := Lib.hid (M5.out.store ⟨e0, e1, 0, ⟨#[]⟩⟩); dsimp only at F; have PF := Lib.hid (HC.out _ F.out.sp.below).1; have xf : ∀ i, w5.frozen? ⟨w4.heap.size, i, none⟩ = false := fun i => frozen_of_heap M5.out.x i; have x0 : w5.cell? ⟨w4.heap.size, 0, none⟩ = some (.int .i64 0) := cell_of_heap M5.out.x 0; have x1 : w5.cell? ⟨w4.heap.size, 1, none⟩ = some (.int .i64 0) := cell_of_heap M5.out.x 1; have x2 : w5.cell? ⟨w4.heap.size, 2, none⟩ = some (.int .i64 0) := cell_of_heap M5.out.x 2; have x3 : w5.cell? ⟨w4.heap.size, 3, none⟩ = some (.string ⟨#[]⟩) := cell_of_heap M5.out.x 3; dsimp only [pipeV])
              | (go_at_call 30; have _t := N4; clear _t; refine (spGet w9 w4 b N _ _ e0 N4.out Hep.out ⟨e0, e1, 0, ⟨#[]⟩⟩ 0 Hpg.out).mono ?_; rintro r w5 ⟨rfl, s5, -⟩; have N5 := Lib.hid s5; clear s5 N4; have P2 := Lib.hid (HC.out _ N5.out.below).1; have P2a : Hid (∀ o, (w5.alloc o).cell? ⟨X, 0, none⟩ = some (.int .i64 e0)) := fun o => (HC.out _ (N5.out.below.alloc N5.out.below.size o)).1; have F := Lib.hid (DrK.of N5.out ⟨e0, e1, 0, ⟨#[]⟩⟩); dsimp only [pipeV])
              | fail)
          all_goals
            clear Id S SA P0 PA P1 P2 z0 z1 z2 z3 S0
          · dsimp only [pCells] at F
            generalize w5.alloc (.cells #[.int .i64 e0, .int .i64 e1, .int .i64 0, .string ⟨#[]⟩] 66) = w6 at *
            have hq0 := cell_of_heap F.out.x 0
            have hq1 := cell_of_heap F.out.x 1
            have hq2 := cell_of_heap F.out.x 2
            have hq3 := cell_of_heap F.out.x 3
            dsimp [pCells] at hq0 hq1 hq2 hq3
            obtain ⟨z0, -, -, z3⟩ := HC.out _ F.out.sp.below
            have Fd := Lib.hid (F.out.later (Below.drew (Below.refl _ _)))
            have S0 := Lib.hid (And.intro z0 (And.intro z3 (And.intro hq2 hq3)))
            go_wp2_with fail
            go_region_held3 (fun W => W.cell? ⟨X, 0, none⟩ = some (.int .i64 e0) ∧ W.cell? ⟨X, 3, none⟩ = some (.string e3) ∧ W.cell? ⟨w5.heap.size, 2, none⟩ = some (.int .i64 0) ∧ W.cell? ⟨w5.heap.size, 3, none⟩ = some (.string ⟨#[]⟩)) (first | with_reducible exact S0.out | with_reducible exact S1.out | with_reducible exact S2.out | go_keep)
              (first
                | (go_at_call 28; refine (one_any _).mono ?_; rintro r w7 ⟨rfl, hb7⟩; have T1 := Lib.hid (Fd.out.later hb7); clear hb7; have S1 := Lib.hid (And.intro (HC.out _ T1.out.sp.below).1 (And.intro (HC.out _ T1.out.sp.below).2.2.2 (And.intro (cell_of_heap T1.out.x 2) (cell_of_heap T1.out.x 3)))); dsimp [pCells] at S1)
                | (go_at_call 36; refine (spLeave w9 w7 b N _ _ e0 T1.out.sp HN6.out Hep.out true _ 20 0 leave_none).mono ?_; rintro r w8' ⟨rfl, s8, hk8⟩; have T2 := Lib.hid s8; have X2 := Lib.hid ((hk8 _ rfl).trans T1.out.x); clear s8 hk8; have S2 := Lib.hid (And.intro (HC.out _ T2.out.below).1 (And.intro (HC.out _ T2.out.below).2.2.2 (And.intro (cell_of_heap X2.out 2) (cell_of_heap X2.out 3)))); dsimp [pCells] at S2)
                | fail)
            have HF : Hid (Below w.heap.size w w8') := HB9.out.trans (T2.out.below.mono HB9.out.size)
            go_wp2
            go_ret
            exact ⟨rfl, HF.out⟩
          · generalize ((((w5.setCell ⟨w4.heap.size, 0, none⟩ (.int .i64 e0)).setCell ⟨w4.heap.size, 1, none⟩ (.int .i64 e1)).setCell ⟨w4.heap.size, 2, none⟩ (.int .i64 0)).setCell ⟨w4.heap.size, 3, none⟩ (.string ⟨#[]⟩)) = w6 at *
            have hq0 := cell_of_heap F.out.x 0
            have hq1 := cell_of_heap F.out.x 1
            have hq2 := cell_of_heap F.out.x 2
            have hq3 := cell_of_heap F.out.x 3
            dsimp [pCells] at hq0 hq1 hq2 hq3
            obtain ⟨z0, -, -, z3⟩ := HC.out _ F.out.sp.below
            have Fd := Lib.hid (F.out.later (Below.drew (Below.refl _ _)))
            have S0 := Lib.hid (And.intro z0 (And.intro z3 (And.intro hq2 hq3)))
            go_wp2_with fail
            go_region_held3 (fun W => W.cell? ⟨X, 0, none⟩ = some (.int .i64 e0) ∧ W.cell? ⟨X, 3, none⟩ = some (.string e3) ∧ W.cell? ⟨w4.heap.size, 2, none⟩ = some (.int .i64 0) ∧ W.cell? ⟨w4.heap.size, 3, none⟩ = some (.string ⟨#[]⟩)) (first | with_reducible exact S0.out | with_reducible exact S1.out | with_reducible exact S2.out | go_keep)
              (first
                | (go_at_call 28; refine (one_any _).mono ?_; rintro r w7 ⟨rfl, hb7⟩; have T1 := Lib.hid (Fd.out.later hb7); clear hb7; have S1 := Lib.hid (And.intro (HC.out _ T1.out.sp.below).1 (And.intro (HC.out _ T1.out.sp.below).2.2.2 (And.intro (cell_of_heap T1.out.x 2) (cell_of_heap T1.out.x 3)))); dsimp [pCells] at S1)
                | (go_at_call 36; refine (spLeave w9 w7 b N _ _ e0 T1.out.sp HN6.out Hep.out true _ 20 0 leave_none).mono ?_; rintro r w8' ⟨rfl, s8, hk8⟩; have T2 := Lib.hid s8; have X2 := Lib.hid ((hk8 _ rfl).trans T1.out.x); clear s8 hk8; have S2 := Lib.hid (And.intro (HC.out _ T2.out.below).1 (And.intro (HC.out _ T2.out.below).2.2.2 (And.intro (cell_of_heap X2.out 2) (cell_of_heap X2.out 3)))); dsimp [pCells] at S2)
                | fail)
            have HF : Hid (Below w.heap.size w w8') := HB9.out.trans (T2.out.below.mono HB9.out.size)
            go_wp2
            go_ret
            exact ⟨rfl, HF.out⟩
          · generalize ((((w5.setCell ⟨wr.heap.size, 0, none⟩ (.int .i64 e0)).setCell ⟨wr.heap.size, 1, none⟩ (.int .i64 e1)).setCell ⟨wr.heap.size, 2, none⟩ (.int .i64 0)).setCell ⟨wr.heap.size, 3, none⟩ (.string ⟨#[]⟩)) = w6 at *
            have hq0 := cell_of_heap F.out.x 0
            have hq1 := cell_of_heap F.out.x 1
            have hq2 := cell_of_heap F.out.x 2
            have hq3 := cell_of_heap F.out.x 3
            dsimp [pCells] at hq0 hq1 hq2 hq3
            obtain ⟨z0, -, -, z3⟩ := HC.out _ F.out.sp.below
            have Fd := Lib.hid (F.out.later (Below.drew (Below.refl _ _)))
            have S0 := Lib.hid (And.intro z0 (And.intro z3 (And.intro hq2 hq3)))
            go_wp2_with fail
            go_region_held3 (fun W => W.cell? ⟨X, 0, none⟩ = some (.int .i64 e0) ∧ W.cell? ⟨X, 3, none⟩ = some (.string e3) ∧ W.cell? ⟨wr.heap.size, 2, none⟩ = some (.int .i64 0) ∧ W.cell? ⟨wr.heap.size, 3, none⟩ = some (.string ⟨#[]⟩)) (first | with_reducible exact S0.out | with_reducible exact S1.out | with_reducible exact S2.out | go_keep)
              (first
                | (go_at_call 28; refine (one_any _).mono ?_; rintro r w7 ⟨rfl, hb7⟩; have T1 := Lib.hid (Fd.out.later hb7); clear hb7; have S1 := Lib.hid (And.intro (HC.out _ T1.out.sp.below).1 (And.intro (HC.out _ T1.out.sp.below).2.2.2 (And.intro (cell_of_heap T1.out.x 2) (cell_of_heap T1.out.x 3)))); dsimp [pCells] at S1)
                | (go_at_call 36; refine (spLeave w9 w7 b N _ _ e0 T1.out.sp HN6.out Hep.out true _ 20 0 leave_none).mono ?_; rintro r w8' ⟨rfl, s8, hk8⟩; have T2 := Lib.hid s8; have X2 := Lib.hid ((hk8 _ rfl).trans T1.out.x); clear s8 hk8; have S2 := Lib.hid (And.intro (HC.out _ T2.out.below).1 (And.intro (HC.out _ T2.out.below).2.2.2 (And.intro (cell_of_heap X2.out 2) (cell_of_heap X2.out 3)))); dsimp [pCells] at S2)
                | fail)
            have HF : Hid (Below w.heap.size w w8') := HB9.out.trans (T2.out.below.mono HB9.out.size)
            go_wp2
            go_ret
            exact ⟨rfl, HF.out⟩
end Go.Proofs.YtemmeopaihmlcaaGreatDoor
