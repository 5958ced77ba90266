/- law 33: encode, decode. -/
import Derived.Test.YtmknhokjpmjkkaaDoorSigD
namespace Go.Proofs.YtmknhokjpmjkkaaDoor
open Go.RowKit
attribute [local go_sem ↓] Go.wp_at_zero Go.wp_at_succ

set_option maxRecDepth 100000 in
set_option maxHeartbeats 4000000 in
theorem lEncodeR_any (p b i h0 h1 h2 h3 h4 h5 h6 h7 : Int) (w : World) (hc : checkR ⟨p, b, i, h0, h1, h2, h3, h4, h5, h6, h7⟩ = 0) : Calls Tryd.prog 27 #[.agg #[.int .i64 p, .int .i64 b, .int .i64 i, .int .i64 h0, .int .i64 h1, .int .i64 h2, .int .i64 h3, .int .i64 h4, .int .i64 h5, .int .i64 h6, .int .i64 h7]] w fun r w' => r = .returned (.string (strOf (encRB ⟨p, b, i, h0, h1, h2, h3, h4, h5, h6, h7⟩))) ∧ Below w.heap.size w w' := by
  have Hbx : Hid (∀ v t, Below w.heap.size w (w.alloc (.cells v t))) := fun v t => (Below.refl _ _).alloc (Nat.le_refl _) _
  obtain ⟨⟨sp, sb, si, -⟩, ha, -, -⟩ := checkR_ok hc
  have hp := setB_ok sp
  have hb := setB_ok sb
  have hi := setB_ok si
  dsimp only at hp hb hi
  clear sp sb si hc
  have Ha := Lib.hid ha; clear ha
  have hW : (w.alloc (.cells #[.int .i64 p, .int .i64 b, .int .i64 i, .int .i64 h0, .int .i64 h1, .int .i64 h2, .int .i64 h3, .int .i64 h4, .int .i64 h5, .int .i64 h6, .int .i64 h7] 42)).heap[w.heap.size]? = some (.cells (rCells ⟨p, b, i, h0, h1, h2, h3, h4, h5, h6, h7⟩) 42 (0, 0)) := World.alloc_heap_new w _
  have Hb1 : Hid (Below w.heap.size w (w.alloc (.cells #[.int .i64 p, .int .i64 b, .int .i64 i, .int .i64 h0, .int .i64 h1, .int .i64 h2, .int .i64 h3, .int .i64 h4, .int .i64 h5, .int .i64 h6, .int .i64 h7] 42))) := Hbx.out _ _
  go_enter Tryd.func27, Tryd.ntmps27
  go_wp2_with fail
  generalize w.alloc (.cells #[.int .i64 p, .int .i64 b, .int .i64 i, .int .i64 h0, .int .i64 h1, .int .i64 h2, .int .i64 h3, .int .i64 h4, .int .i64 h5, .int .i64 h6, .int .i64 h7] 42) = w1 at *
  have hqc : ∀ j, w1.cell? ⟨w.heap.size, j, none⟩ = (rCells ⟨p, b, i, h0, h1, h2, h3, h4, h5, h6, h7⟩)[j]? := fun j => cell_of_heap hW j
  have hsz1 : w.heap.size < w1.heap.size := lt_of_heap hW
  clear hW
  refine (newWriter_any _).mono ?_
  rintro e w2 ⟨rfl, rfl⟩
  have Hwr := Lib.hid (wr_box (w := w1))
  have hB0 : Below w1.heap.size w1 (w1.alloc (.cells #[.slice none 0 0, .int .i64 0] 183)) := (Below.refl _ _).alloc (Nat.le_refl _) _
  generalize w1.alloc (.cells #[.slice none 0 0, .int .i64 0] 183) = w2 at *
  have hc0 : w2.cell? ⟨w.heap.size, 0, none⟩ = some (.int .i64 p) := ((bcell hB0).1 _ _ hsz1).trans (hqc 0)
  have HB2 := Lib.hid hB0; clear hB0
  have Hqc := Lib.hid hqc; clear hqc
  go_wp2_with fail
  refine (number_any w1.heap.size w1.heap.size [] p _ hp.1 (by omega) (by simp) HB2.out.size Hwr.out).mono ?_
  rintro e w3 ⟨rfl, hwr, hb⟩
  have HB3 : Hid (Below w1.heap.size w1 w3) := HB2.out.trans hb
  clear HB2 Hwr hc0 hb
  have Hwr := Lib.hid hwr; clear hwr
  have hc1 : w3.cell? ⟨w.heap.size, 1, none⟩ = some (.int .i64 b) := ((bcell HB3.out).1 _ _ hsz1).trans (Hqc.out 1)
  have hl3 : Hid (([] ++ natBytes p.toNat).length ≤ 10) := by
    show _ ≤ _
    simpa using natBytes_length p.toNat
  go_wp2_with fail
  refine (number_any w1.heap.size w1.heap.size _ b _ (by omega) (by omega) (by have := hl3.out; omega) HB3.out.size Hwr.out).mono ?_
  rintro e w4 ⟨rfl, hwr, hb⟩
  have HB4 : Hid (Below w1.heap.size w1 w4) := HB3.out.trans hb
  clear HB3 Hwr hc1 hb
  have Hwr := Lib.hid hwr; clear hwr
  have hc2 : w4.cell? ⟨w.heap.size, 2, none⟩ = some (.int .i64 i) := ((bcell HB4.out).1 _ _ hsz1).trans (Hqc.out 2)
  have hl4 : Hid (([] ++ natBytes p.toNat ++ natBytes b.toNat).length ≤ 20) := by
    show _ ≤ _
    have h1 := hl3.out
    have h2 := natBytes_length b.toNat
    rw [List.length_append]
    omega
  go_wp2_with fail
  refine (number_any w1.heap.size w1.heap.size _ i _ hi.1 (by omega) (by have := hl4.out; omega) HB4.out.size Hwr.out).mono ?_
  rintro e w5 ⟨rfl, hwr, hb⟩
  have HB5 : Hid (Below w1.heap.size w1 w5) := HB4.out.trans hb
  clear HB4 Hwr hc2 hb hl3 hl4
  have hhead : [] ++ natBytes p.toNat ++ natBytes b.toNat ++ natBytes i.toNat = headR ⟨p, b, i, h0, h1, h2, h3, h4, h5, h6, h7⟩ := rfl
  rw [hhead] at hwr
  clear hhead
  have Hwr := Lib.hid hwr; clear hwr
  go_wp2
  have HIx : Hid (∀ k, k < 8 → ∀ W, Below w1.heap.size w1 W → W.cell? ⟨w.heap.size, 3 + k, none⟩ = some (.int .i64 ((RecT.mk p b i h0 h1 h2 h3 h4 h5 h6 h7).hs.getD k 0))) := fun k hk W hb => (((bcell hb).1 _ _ hsz1).trans (Hqc.out (3 + k))).trans (rCells_at _ k hk)
  obtain ⟨R, hR⟩ : ∃ R : RecT, RecT.mk p b i h0 h1 h2 h3 h4 h5 h6 h7 = R := ⟨_, rfl⟩
  rw [hR] at HIx Ha Hwr
  have HR := Lib.hid hR; clear hR
  go_loopw [4] (fun i wr => ∃ k : Nat, k ≤ 8 ∧ i = .int .i64 k ∧ Hid (Wr w1.heap.size w1.heap.size wr (headR R ++ numsB (R.hs.take k))) ∧ Hid (Below w1.heap.size w1 wr)) (fun i _ => 8 - (intOf i).toNat)
  case atStart => exact ⟨0, by omega, rfl, by show Wr _ _ _ _; simpa [numsB] using Hwr.out, HB5.out⟩
  case round =>
    obtain ⟨k, hk, rfl, HW, HB⟩ := hrel
    clear HB5 Hwr
    by_cases h4' : k < 8
    · have hix := HIx.out k h4' _ HB.out
      have Hsn := Lib.hid (numsB_snoc R.hs k h4')
      have hx := addrB_ok (Ha.out k h4')
      have hll : Hid ((headR R ++ numsB (R.hs.take k)).length ≤ 1000) := by
        show _ ≤ _
        have h1 := headR_length R
        have h2 := numsB_length (R.hs.take k)
        have h3 : (R.hs.take k).length ≤ k := by simp; omega
        rw [List.length_append]
        omega
      generalize R.hs.getD k 0 = x at *
      go_wp2_with fail
      refine (number_any w1.heap.size w1.heap.size _ x _ hx.1 (by omega) (by have := hll.out; omega) HB.out.size HW.out).mono ?_
      rintro e w7 ⟨rfl, hwr, hb⟩
      have HWn := Lib.hid hwr; clear hwr
      have HB7 : Hid (Below w1.heap.size w1 w7) := HB.out.trans hb
      clear hb
      go_wp2
      go_roundw
      case rel =>
        refine ⟨k + 1, by omega, by go_num, ?_, HB7.out⟩
        show Wr _ _ _ _
        rw [Hsn.out, ← List.append_assoc]
        exact HWn.out
      case measure => simp [intOf]; omega
    · obtain rfl : k = 8 := by omega
      have hfull : Hid (headR R ++ numsB (R.hs.take 8) = encRB R) := rfl
      have hll : Hid ((encRB R).length ≤ 35184372088832) := Nat.le_trans (encRB_length R) (by decide)
      have hwr := HW.out
      rw [hfull.out] at hwr
      have HWn := Lib.hid hwr; clear hwr HW
      go_wp2_with fail
      refine (bytes_any w1.heap.size w1.heap.size _ _ hll.out HWn.out).mono ?_
      rintro e w7 ⟨v, rfl, hrow, hb, hform⟩
      rcases hform with rfl | ⟨g2, n2, c2, rfl, hg2⟩
      · exfalso
        rcases hrow.2 with ⟨_, h⟩ | ⟨g', cap', cur, h0, _⟩
        · exact encRB_ne R (by simpa using h)
        · cases h0
      · have hconv := run_bytes_str w7 g2 0 n2 c2 _ hrow.sl.1
        have Hfin : Hid (Below w.heap.size w w7) := (Hb1.out.trans (HB.out.mono (by omega))).trans (hb.mono (by have := HB.out.size; omega))
        clear hrow hb HB HWn
        go_wp2
        go_ret
        rw [HR.out]
        exact ⟨rfl, Hfin.out⟩

theorem sRd_mono {S S' : Nat → Prop} {b : Nat} {w : World} {s : RdS} (h : Rd S b w s) (hS : ∀ k, S k → S' k) : Rd S' b w s := by
  obtain ⟨hBb, g, off, n, c, p, hh, hsl, hnc, hBg, hgb, hlen⟩ := h
  exact ⟨hS _ hBb, g, off, n, c, p, hh, hsl, hnc, hS _ hBg, hgb, hlen⟩

set_option maxRecDepth 100000 in
set_option maxHeartbeats 4000000 in
theorem lDecodeR_any (s : ByteArray) (w : World) (hs2 : s.size ≤ 35184372088832) : Calls Tryd.prog 28 #[.string s] w (RecPost w (decR s)) := by
  have hconv := Lib.run_convert_string_bytes (P := Tryd.prog) (w.alloc zObj) 9 136 5 s Tryd.underlying9 Tryd.underlying136 Tryd.underlying5
  have hR : (w.alloc zObj).heap[w.heap.size]? = some (.cells (rCells zeroR) 42 (0, 0)) := World.alloc_heap_new w _
  have hbw := sBytes_below (w.alloc zObj) 5 s
  have hsrc := rec_src w s zObj
  rw [World.size_alloc] at hconv
  have hRb := (hbw.block w.heap.size (by simp)).trans hR
  have Hwb : Hid (Below w.heap.size w (Lib.bytesWorld (w.alloc zObj) 5 s)) := ((Below.refl _ _).alloc (Nat.le_refl _) _).trans (hbw.mono (by simp))
  have hwsz : w.heap.size < (Lib.bytesWorld (w.alloc zObj) 5 s).heap.size := by rw [Lib.bytesWorld_size]; simp; omega
  have Hsrc := Lib.hid hsrc; clear hsrc hbw hR
  have HRb := Lib.hid hRb; clear hRb
  have Hlen : Hid (s.data.toList.length ≤ 35184372088832) := by show _ ≤ _; rw [size_toList]; exact hs2
  clear hs2
  unfold zObj at *
  go_enter Tryd.func28, Tryd.ntmps28
  go_wp2_with fail
  generalize Lib.bytesWorld (w.alloc (.cells #[.int .i64 0, .int .i64 0, .int .i64 0, .int .i64 0, .int .i64 0, .int .i64 0, .int .i64 0, .int .i64 0, .int .i64 0, .int .i64 0, .int .i64 0] 42)) 5 s = wb at *
  refine (newReader_any _ s.data.toList _ Hlen.out Hsrc.out (by simp)).mono ?_
  rintro e w1 ⟨b, rfl, hrd, hb1⟩
  clear hconv Hsrc
  generalize hbs : s.data.toList = bs at *
  have Hbs := Lib.hid hbs; clear hbs
  have Hrd := Lib.hid hrd; clear hrd
  have HB1 := Lib.hid hb1; clear hb1
  go_wp2_with fail
  refine (rNumber_any _ b 254 _ _ Hrd.out).mono ?_
  rintro e w2 ⟨rfl, hr, hg⟩
  have Zw2 : Hid (w1.heap.size ≤ w2.heap.size) := hg.size
  have HB2 : Hid (Below wb.heap.size wb w2) := sBelow_row HB1.out hg (Nat.le_refl _) (fun k hk => by cases hk; exact hr.1.1)
  have Hrd2 := Lib.hid hr; clear hr hg Hrd
  have e1 : rdNum 254 ⟨bs, 0⟩ = sr1 bs := rfl
  rw [e1] at Hrd2
  rw [e1]
  clear e1
  go_wp2_with fail
  refine (rNumber_any _ b 254 _ _ Hrd2.out).mono ?_
  rintro e w3 ⟨rfl, hr, hg⟩
  have Zw3 : Hid (w2.heap.size ≤ w3.heap.size) := hg.size
  have HB3 : Hid (Below wb.heap.size wb w3) := sBelow_row HB2.out hg (Nat.le_refl _) (fun k hk => by cases hk; exact hr.1.1)
  have Hrd3 := Lib.hid hr; clear hr hg Hrd2
  have e1 : rdNum 254 (sr1 bs).2 = sr2 bs := rfl
  rw [e1] at Hrd3
  rw [e1]
  clear e1
  go_wp2_with fail
  refine (rNumber_any _ b 254 _ _ Hrd3.out).mono ?_
  rintro e w4 ⟨rfl, hr, hg⟩
  have Zw4 : Hid (w3.heap.size ≤ w4.heap.size) := hg.size
  have HB4 : Hid (Below wb.heap.size wb w4) := sBelow_row HB3.out hg (Nat.le_refl _) (fun k hk => by cases hk; exact hr.1.1)
  have Hrd4 := Lib.hid hr; clear hr hg Hrd3
  have e1 : rdNum 254 (sr2 bs).2 = sr3 bs := rfl
  rw [e1] at Hrd4
  rw [e1]
  clear e1
  have D3' : Hid (SDec wb wb.heap.size w4.heap.size b (w4.alloc (.cells #[.int .i64 (sr1 bs).1, .int .i64 (sr2 bs).1, .int .i64 (sr3 bs).1, .int .i64 0, .int .i64 0, .int .i64 0, .int .i64 0, .int .i64 0, .int .i64 0, .int .i64 0, .int .i64 0] 42)) (recAt bs 0) (srH (sr3 bs).2 0)) :=
    ⟨heap_alloc_new w4 _, (sRd_mono Hrd4.out (fun k hk => ⟨hk.1, by have h1 := hk.2; have h2 := Zw2.out; have h3 := Zw3.out; have h4 := Zw4.out; omega⟩)).later ((Below.refl _ _).alloc (Nat.le_refl _) _), HB4.out.alloc HB4.out.size _, HB4.out.size, Nat.le_refl _⟩
  go_wp2
  clear Hrd4 HB1 HB2 HB3 HB4 Zw2 Zw3 Zw4
  generalize w4.alloc (.cells #[.int .i64 (sr1 bs).1, .int .i64 (sr2 bs).1, .int .i64 (sr3 bs).1, .int .i64 0, .int .i64 0, .int .i64 0, .int .i64 0, .int .i64 0, .int .i64 0, .int .i64 0, .int .i64 0] 42) = w5 at *
  generalize w4.heap.size = T at *
  go_loopw [6] (fun i wr => ∃ k : Nat, k ≤ 8 ∧ i = .int .i64 k ∧ Hid (SDec wb wb.heap.size T b wr (recAt bs k) (srH (sr3 bs).2 k))) (fun i _ => 8 - (intOf i).toNat)
  case atStart => exact ⟨0, by omega, rfl, D3'.out⟩
  case round =>
    obtain ⟨k, hk, rfl, HD⟩ := hrel
    clear D3'
    by_cases h4 : k < 8
    · go_wp2_with fail
      refine (rNumber_any _ b 4095 _ _ HD.out.rd).mono ?_
      rintro e w6 ⟨rfl, hr, hg⟩
      have D4 := Lib.hid (HD.out.read hr hg); clear hr hg HD
      have ck := D4.out.cell (3 + k)
      rw [rCells_at _ k h4] at ck
      generalize (recAt bs k).hs.getD k 0 = old at *
      have fk := D4.out.free (3 + k)
      have e4 : (rdNum 4095 (srH (sr3 bs).2 k)).1 = srV bs k := rfl
      rw [e4]
      clear e4
      have D5 : Hid (SDec wb wb.heap.size T b _ (recAt bs (k + 1)) (srH (sr3 bs).2 (k + 1))) := D4.out.store (3 + k) (.int .i64 (srV bs k)) (recAt bs (k + 1)) (recAt_step bs k h4)
      clear D4
      go_wp2
      go_roundw
      case rel => exact ⟨k + 1, by omega, by go_num, D5.out⟩
      case measure => simp [intOf]; omega
    · obtain rfl : k = 8 := by omega
      have D6 : Hid (SDec wb wb.heap.size T b wr (recOf bs) (srH (sr3 bs).2 8)) := HD.out
      clear HD h4 hk
      go_wp2_with fail
      refine (rClose_any _ b _ _ D6.out.rd).mono ?_
      rintro e w6 ⟨rfl, rfl⟩
      have hR6 := (D6.out.below.block w.heap.size hwsz).trans HRb.out
      have HR6 := Lib.hid hR6
      have HB6 : Hid (Below w.heap.size w wr) := Hwb.out.trans (D6.out.below.mono (Nat.le_of_lt hwsz))
      generalize hcl : rdClose (srH (sr3 bs).2 8) = q at *
      have Hcl := Lib.hid hcl; clear hcl
      by_cases hq : q = 0
      · subst hq
        generalize hcq : checkR (recOf bs) = q at *
        have Hcq := Lib.hid hcq; clear hcq
        have Hdec : Hid (decR s = if q ≠ 0 then (zeroR, q) else (recOf bs, 0)) := by show _ = _; unfold decR; rw [Hbs.out, Hcl.out, Hcq.out]; rfl
        have HT6 : Hid (wr.heap[T]? = some (.cells (rCells (recOf bs)) 42 (0, 0))) := D6.out.heap
        clear D6 hR6
        generalize recOf bs = r at *
        obtain ⟨p, b', i, h0, h1, h2, h3, h4, h5, h6, h7⟩ := r
        obtain ⟨c0, c1, c2, c3, c4, c5, c6, c7, c8, c9, c10⟩ := at11 HT6.out
        dsimp only at c0 c1 c2 c3 c4 c5 c6 c7 c8 c9 c10
        go_wp2_with fail
        refine (lCheck_any p b' i h0 h1 h2 h3 h4 h5 h6 h7 _).mono ?_
        rw [Hcq.out]
        rintro e w7 ⟨rfl, hb7⟩
        have hR7 := (hb7.block w.heap.size (lt_of_heap HR6.out)).trans HR6.out
        have hT7 := (hb7.block T (lt_of_heap HT6.out)).trans HT6.out
        have H7 : Hid (Below w.heap.size w w7) := HB6.out.trans (hb7.mono (Nat.le_of_lt (lt_of_heap HR6.out)))
        clear c0 c1 c2 c3 c4 c5 c6 c7 c8 c9 c10
        obtain ⟨c0, c1, c2, c3, c4, c5, c6, c7, c8, c9, c10⟩ := at11 hT7
        obtain ⟨r0, r1, r2, r3, r4, r5, r6, r7, r8, r9, r10⟩ := at11 hR7
        obtain ⟨g0, g1, g2, g3, g4, g5, g6, g7, g8, g9, g10⟩ := free11 hR7
        dsimp only at c0 c1 c2 c3 c4 c5 c6 c7 c8 c9 c10
        clear hR7 hT7 hb7
        by_cases hq : q = 0
        · subst hq
          have he : Hid (decR s = (⟨p, b', i, h0, h1, h2, h3, h4, h5, h6, h7⟩, 0)) := Hdec.out.trans (by simp)
          clear Hdec
          go_wp2
          refine bodyPost_ret (v := .tuple #[.agg #[.int .i64 p, .int .i64 b', .int .i64 i, .int .i64 h0, .int .i64 h1, .int .i64 h2, .int .i64 h3, .int .i64 h4, .int .i64 h5, .int .i64 h6, .int .i64 h7], .int .i64 0]) (by simp [results, Tryd.results28, go_sem, r0, r1, r2, r3, r4, r5, r6, r7, r8, r9, r10]) rfl ?_
          rw [he.out]
          exact ⟨rfl, sBelow_row H7.out (set11_grown _ _ _ _ _ _ _ _ _ _ _ _ _) (Nat.le_refl _) (fun k hk => by cases hk; exact Nat.le_refl _)⟩
        · have hq' : ((q : Int) != 0) = true := bne_iff_ne.2 (by omega)
          have he : Hid (decR s = (zeroR, q)) := Hdec.out.trans (if_pos hq)
          clear hq Hdec
          go_wp2
          refine bodyPost_ret (v := .tuple #[.agg #[.int .i64 0, .int .i64 0, .int .i64 0, .int .i64 0, .int .i64 0, .int .i64 0, .int .i64 0, .int .i64 0, .int .i64 0, .int .i64 0, .int .i64 0], .int .i64 q]) (by simp [results, Tryd.results28, go_sem, r0, r1, r2, r3, r4, r5, r6, r7, r8, r9, r10]) rfl ?_
          rw [he.out]
          exact ⟨rfl, sBelow_row H7.out (set11_grown _ _ _ _ _ _ _ _ _ _ _ _ _) (Nat.le_refl _) (fun k hk => by cases hk; exact Nat.le_refl _)⟩
      · have hq' : ((q : Int) != 0) = true := bne_iff_ne.2 (by omega)
        have he : Hid (decR s = (zeroR, q)) := by show _ = _; unfold decR; rw [Hbs.out, Hcl.out, if_pos hq]
        clear hq
        obtain ⟨r0, r1, r2, r3, r4, r5, r6, r7, r8, r9, r10⟩ := at11 hR6
        obtain ⟨g0, g1, g2, g3, g4, g5, g6, g7, g8, g9, g10⟩ := free11 hR6
        clear hR6
        go_wp2
        refine bodyPost_ret (v := .tuple #[.agg #[.int .i64 0, .int .i64 0, .int .i64 0, .int .i64 0, .int .i64 0, .int .i64 0, .int .i64 0, .int .i64 0, .int .i64 0, .int .i64 0, .int .i64 0], .int .i64 q]) (by simp [results, Tryd.results28, go_sem, r0, r1, r2, r3, r4, r5, r6, r7, r8, r9, r10]) rfl ?_
        rw [he.out]
        exact ⟨rfl, sBelow_row HB6.out (set11_grown _ _ _ _ _ _ _ _ _ _ _ _ _) (Nat.le_refl _) (fun k hk => by cases hk; exact Nat.le_refl _)⟩

end Go.Proofs.YtmknhokjpmjkkaaDoor
