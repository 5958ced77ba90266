/- law 33: encode, decode. -/
import Derived.Test.YtemmeopaihmlcaaDoorSigC
namespace Go.Proofs.YtemmeopaihmlcaaDoor
open Go.RowKit
attribute [local go_sem ↓] Go.wp_at_zero Go.wp_at_succ

set_option maxRecDepth 100000 in
set_option maxHeartbeats 4000000 in
theorem lEncodeR_any (p b i h0 h1 h2 h3 h4 h5 h6 h7 : Int) (w : World) (hc : checkR ⟨p, b, i, h0, h1, h2, h3, h4, h5, h6, h7⟩ = 0) : Calls Tryd.prog 10 #[.agg #[.int .i64 p, .int .i64 b, .int .i64 i, .int .i64 h0, .int .i64 h1, .int .i64 h2, .int .i64 h3, .int .i64 h4, .int .i64 h5, .int .i64 h6, .int .i64 h7]] w fun r w' => r = .returned (.string (strOf (encRB ⟨p, b, i, h0, h1, h2, h3, h4, h5, h6, h7⟩))) ∧ Below w.heap.size w w' := by
  have Hbx : Hid (∀ v t, Below w.heap.size w (w.alloc (.cells v t))) := fun v t => (Below.refl _ _).alloc (Nat.le_refl _) _
  obtain ⟨⟨sp, sb, si, -⟩, ha, -, -⟩ := checkR_ok hc
  have hp := setB_ok sp
  have hb := setB_ok sb
  have hi := setB_ok si
  dsimp only at hp hb hi
  clear sp sb si hc
  have Ha := Lib.hid ha; clear ha
  have hW : (w.alloc (.cells #[.int .i64 p, .int .i64 b, .int .i64 i, .int .i64 h0, .int .i64 h1, .int .i64 h2, .int .i64 h3, .int .i64 h4, .int .i64 h5, .int .i64 h6, .int .i64 h7] 35)).heap[w.heap.size]? = some (.cells (rCells ⟨p, b, i, h0, h1, h2, h3, h4, h5, h6, h7⟩) 35 (0, 0)) := World.alloc_heap_new w _
  have Hb1 : Hid (Below w.heap.size w (w.alloc (.cells #[.int .i64 p, .int .i64 b, .int .i64 i, .int .i64 h0, .int .i64 h1, .int .i64 h2, .int .i64 h3, .int .i64 h4, .int .i64 h5, .int .i64 h6, .int .i64 h7] 35))) := Hbx.out _ _
  go_enter Tryd.func10, Tryd.ntmps10
  go_wp2_with fail
  generalize w.alloc (.cells #[.int .i64 p, .int .i64 b, .int .i64 i, .int .i64 h0, .int .i64 h1, .int .i64 h2, .int .i64 h3, .int .i64 h4, .int .i64 h5, .int .i64 h6, .int .i64 h7] 35) = w1 at *
  have hqc : ∀ j, w1.cell? ⟨w.heap.size, j, none⟩ = (rCells ⟨p, b, i, h0, h1, h2, h3, h4, h5, h6, h7⟩)[j]? := fun j => cell_of_heap hW j
  have hsz1 : w.heap.size < w1.heap.size := lt_of_heap hW
  clear hW
  refine (newWriter_any _).mono ?_
  rintro e w2 ⟨rfl, rfl⟩
  have Hwr := Lib.hid (wr_box (w := w1))
  have hB0 : Below w1.heap.size w1 (w1.alloc (.cells #[.slice none 0 0, .int .i64 0] 123)) := (Below.refl _ _).alloc (Nat.le_refl _) _
  generalize w1.alloc (.cells #[.slice none 0 0, .int .i64 0] 123) = w2 at *
  have hc0 : w2.cell? ⟨w.heap.size, 0, none⟩ = some (.int .i64 p) := ((bcell hB0).1 _ _ hsz1).trans (hqc 0)
  have HB2 := Lib.hid hB0; clear hB0
  have Hqc := Lib.hid hqc; clear hqc
  go_wp2_with fail
  refine (number_any w1.heap.size w1.heap.size [] p _ hp.1 (by omega) (by simp) HB2.out.size Hwr.out).mono ?_
  rintro e w3 ⟨rfl, hwr, hb⟩
  have HB3 : Hid (Below w1.heap.size w1 w3) := HB2.out.trans hb
  clear HB2 Hwr hc0 hb
  have Hwr := Lib.hid hwr; clear hwr
  have hc1 : w3.cell? ⟨w.heap.size, 1, none⟩ = some (.int .i64 b) := ((bcell HB3.out).1 _ _ hsz1).trans (Hqc.out 1)
  have hl3 : Hid (([] ++ natBytes p.toNat).length ≤ 10) := by
    show _ ≤ _
    simpa using natBytes_length p.toNat
  go_wp2_with fail
  refine (number_any w1.heap.size w1.heap.size _ b _ (by omega) (by omega) (by have := hl3.out; omega) HB3.out.size Hwr.out).mono ?_
  rintro e w4 ⟨rfl, hwr, hb⟩
  have HB4 : Hid (Below w1.heap.size w1 w4) := HB3.out.trans hb
  clear HB3 Hwr hc1 hb
  have Hwr := Lib.hid hwr; clear hwr
  have hc2 : w4.cell? ⟨w.heap.size, 2, none⟩ = some (.int .i64 i) := ((bcell HB4.out).1 _ _ hsz1).trans (Hqc.out 2)
  have hl4 : Hid (([] ++ natBytes p.toNat ++ natBytes b.toNat).length ≤ 20) := by
    show _ ≤ _
    have h1 := hl3.out
    have h2 := natBytes_length b.toNat
    rw [List.length_append]
    omega
  go_wp2_with fail
  refine (number_any w1.heap.size w1.heap.size _ i _ hi.1 (by omega) (by have := hl4.out; omega) HB4.out.size Hwr.out).mono ?_
  rintro e w5 ⟨rfl, hwr, hb⟩
  have HB5 : Hid (Below w1.heap.size w1 w5) := HB4.out.trans hb
  clear HB4 Hwr hc2 hb hl3 hl4
  have hhead : [] ++ natBytes p.toNat ++ natBytes b.toNat ++ natBytes i.toNat = headR ⟨p, b, i, h0, h1, h2, h3, h4, h5, h6, h7⟩ := rfl
  rw [hhead] at hwr
  clear hhead
  have Hwr := Lib.hid hwr; clear hwr
  go_wp2
  have HIx : Hid (∀ k, k < 8 → ∀ W, Below w1.heap.size w1 W → W.cell? ⟨w.heap.size, 3 + k, none⟩ = some (.int .i64 ((RecT.mk p b i h0 h1 h2 h3 h4 h5 h6 h7).hs.getD k 0))) := fun k hk W hb => (((bcell hb).1 _ _ hsz1).trans (Hqc.out (3 + k))).trans (rCells_at _ k hk)
  obtain ⟨R, hR⟩ : ∃ R : RecT, RecT.mk p b i h0 h1 h2 h3 h4 h5 h6 h7 = R := ⟨_, rfl⟩
  rw [hR] at HIx Ha Hwr
  have HR := Lib.hid hR; clear hR
  go_loopw [4] (fun i wr => ∃ k : Nat, k ≤ 8 ∧ i = .int .i64 k ∧ Hid (Wr w1.heap.size w1.heap.size wr (headR R ++ numsB (R.hs.take k))) ∧ Hid (Below w1.heap.size w1 wr)) (fun i _ => 8 - (intOf i).toNat)
  case atStart => exact ⟨0, by omega, rfl, by show Wr _ _ _ _; simpa [numsB] using Hwr.out, HB5.out⟩
  case round =>
    obtain ⟨k, hk, rfl, HW, HB⟩ := hrel
    clear HB5 Hwr
    by_cases h4' : k < 8
    · have hix := HIx.out k h4' _ HB.out
      have Hsn := Lib.hid (numsB_snoc R.hs k h4')
      have hx := addrB_ok (Ha.out k h4')
      have hll : Hid ((headR R ++ numsB (R.hs.take k)).length ≤ 1000) := by
        show _ ≤ _
        have h1 := headR_length R
        have h2 := numsB_length (R.hs.take k)
        have h3 : (R.hs.take k).length ≤ k := by simp; omega
        rw [List.length_append]
        omega
      generalize R.hs.getD k 0 = x at *
      go_wp2_with fail
      refine (number_any w1.heap.size w1.heap.size _ x _ hx.1 (by omega) (by have := hll.out; omega) HB.out.size HW.out).mono ?_
      rintro e w7 ⟨rfl, hwr, hb⟩
      have HWn := Lib.hid hwr; clear hwr
      have HB7 : Hid (Below w1.heap.size w1 w7) := HB.out.trans hb
      clear hb
      go_wp2
      go_roundw
      case rel =>
        refine ⟨k + 1, by omega, by go_num, ?_, HB7.out⟩
        show Wr _ _ _ _
        rw [Hsn.out, ← List.append_assoc]
        exact HWn.out
      case measure => simp [intOf]; omega
    · obtain rfl : k = 8 := by omega
      have hfull : Hid (headR R ++ numsB (R.hs.take 8) = encRB R) := rfl
      have hll : Hid ((encRB R).length ≤ 35184372088832) := Nat.le_trans (encRB_length R) (by decide)
      have hwr := HW.out
      rw [hfull.out] at hwr
      have HWn := Lib.hid hwr; clear hwr HW
      go_wp2_with fail
      refine (bytes_any w1.heap.size w1.heap.size _ _ hll.out HWn.out).mono ?_
      rintro e w7 ⟨v, rfl, hrow, hb, hform⟩
      rcases hform with rfl | ⟨g2, n2, c2, rfl, hg2⟩
      · exfalso
        rcases hrow.2 with ⟨_, h⟩ | ⟨g', cap', cur, h0, _⟩
        · exact encRB_ne R (by simpa using h)
        · cases h0
      · have hconv := run_bytes_str w7 g2 0 n2 c2 _ hrow.sl.1
        have Hfin : Hid (Below w.heap.size w w7) := (Hb1.out.trans (HB.out.mono (by omega))).trans (hb.mono (by have := HB.out.size; omega))
        clear hrow hb HB HWn
        go_wp2
        go_ret
        rw [HR.out]
        exact ⟨rfl, Hfin.out⟩

theorem sRd_mono {S S' : Nat → Prop} {b : Nat} {w : World} {s : RdS} (h : Rd S b w s) (hS : ∀ k, S k → S' k) : Rd S' b w s := by
  obtain ⟨hBb, g, off, n, c, p, hh, hsl, hnc, hBg, hgb, hlen⟩ := h
  exact ⟨hS _ hBb, g, off, n, c, p, hh, hsl, hnc, hS _ hBg, hgb, hlen⟩

end Go.Proofs.YtemmeopaihmlcaaDoor
