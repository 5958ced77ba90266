/- The reference of layer 32: Decode. -/
import Derived.Test.YtemmeopaihmlcaaGreatDoorRefF
namespace Go.Proofs.YtemmeopaihmlcaaGreatDoor
open Go.RowKit
attribute [local go_sem ↓] Go.wp_at_zero Go.wp_at_succ

/-- The pipe that the reference guesses. -/
def rGuess (s : ByteArray) : PipeT := ⟨(rTake s).1, (rTake (rTake s).2).1, (rTake (rTake (rTake s).2).2).1, (rTake (rTake (rTake (rTake s).2).2).2).2⟩
def rLen (s : ByteArray) : Int := (rTake (rTake (rTake (rTake s).2).2).2).1
/-- What the reference's Decode answers. -/
def rDec (s : ByteArray) : PipeT × Nat :=
  if rLen s < 0 ∨ rLen s ≠ (rGuess s).bytes.size then (zeroP, 3)
  else if encP (rGuess s) = (s, 0) then (rGuess s, 0) else (zeroP, 3)

theorem rTake_small (s : ByteArray) : (rTake s).2.size ≤ s.size ∧ -1 ≤ (rTake s).1 ∧ (rTake s).1 ≤ 9223372036854775807 := by
  unfold rTake
  have h := parse9_small s.data.toList
  split
  · refine ⟨by simp [ByteArray.size_extract], by dsimp only; omega, by dsimp only; omega⟩
  · exact ⟨Nat.zero_le _, by decide, by decide⟩

theorem encP_err (p : PipeT) : (encP p).2 = checkP p := by
  unfold encP
  split <;> simp_all
theorem ba_of_toList {a b : ByteArray} (h : a.toList = b.toList) : a = b := by
  have := str_beq a b
  rw [Bool.eq_iff_iff] at this
  simpa [h] using this

structure RD (w W : World) (p : PipeT) : Prop where
  res : W.heap[w.heap.size]? = some (.cells #[.int .i64 0, .int .i64 0, .int .i64 0, .string ⟨#[]⟩] 63 (0, 0))
  box : W.heap[w.heap.size + 1]? = some (.cells (pCells p) 63 (0, 0))
  low : Below w.heap.size w W
theorem RD.start (w : World) : RD w ((w.alloc (.cells #[.int .i64 0, .int .i64 0, .int .i64 0, .string ⟨#[]⟩] 63)).alloc (.cells #[.int .i64 0, .int .i64 0, .int .i64 0, .string ⟨#[]⟩] 63)) zeroP :=
  ⟨(Below.heap_alloc _ _ _ (by simp)).trans (World.alloc_heap_new w _), by have := World.alloc_heap_new (w.alloc (.cells #[.int .i64 0, .int .i64 0, .int .i64 0, .string ⟨#[]⟩] 63)) (.cells #[.int .i64 0, .int .i64 0, .int .i64 0, .string ⟨#[]⟩] 63); rw [World.size_alloc] at this; exact this, ((Below.refl _ _).alloc (Nat.le_refl _) _).alloc (by simp) _⟩
theorem RD.later {w W W' : World} {p : PipeT} (h : RD w W p) (hb : Below W.heap.size W W') : RD w W' p :=
  ⟨(hb.block _ (lt_of_heap h.res)).trans h.res, (hb.block _ (lt_of_heap h.box)).trans h.box, h.low.trans (hb.mono h.low.size)⟩
theorem RD.store {w W : World} {p : PipeT} (h : RD w W p) (i : Nat) (v : Value) (p' : PipeT) (he : (pCells p).setIfInBounds i v = pCells p') : RD w (W.setCell ⟨w.heap.size + 1, i, none⟩ v) p' :=
  ⟨(Below.heap_setCell _ _ _ _ (by show w.heap.size ≠ w.heap.size + 1; omega)).trans h.res, by rw [← he]; exact heap_setCell_same h.box i v, pBelow_row h.low (grown_setCell _ _ _ _) (Nat.le_refl _) (fun k hk => by cases hk; omega)⟩
theorem RD.cells {w W : World} {p : PipeT} (h : RD w W p) : (W.cell? ⟨w.heap.size + 1, 0, none⟩ = some (.int .i64 p.epoch) ∧ W.cell? ⟨w.heap.size + 1, 1, none⟩ = some (.int .i64 p.readers) ∧ W.cell? ⟨w.heap.size + 1, 2, none⟩ = some (.int .i64 p.writers) ∧ W.cell? ⟨w.heap.size + 1, 3, none⟩ = some (.string p.bytes)) ∧ ∀ j, W.frozen? ⟨w.heap.size + 1, j, none⟩ = false :=
  ⟨⟨cell_of_heap h.box 0, cell_of_heap h.box 1, cell_of_heap h.box 2, cell_of_heap h.box 3⟩, fun j => frozen_of_heap h.box j⟩

set_option maxRecDepth 100000 in
set_option maxHeartbeats 1000000 in
theorem rfDecode_any (s : ByteArray) (w : World) (hs : s.size ≤ 35184372088832) : Calls Tryz.prog 29 #[.string s] w (PipePost w (rDec s)) := by
  have D0 := Lib.hid (RD.start w)
  have Hs := Lib.hid hs; clear hs
  go_enter Tryz.func29, Tryz.ntmps29
  go_wp2_with fail
  generalize (w.alloc (.cells #[.int .i64 0, .int .i64 0, .int .i64 0, .string ⟨#[]⟩] 63)).alloc (.cells #[.int .i64 0, .int .i64 0, .int .i64 0, .string ⟨#[]⟩] 63) = W0 at *
  refine (rfTake_any s _ Hs.out).mono ?_
  rintro e w1 ⟨rfl, hb⟩
  have D1 := Lib.hid (D0.out.later hb); clear hb D0
  obtain ⟨⟨c0, -, -, -⟩, hf⟩ := D1.out.cells
  have f0 := hf 0; clear hf
  have E1 : Hid (∃ x, x = rTake s) := ⟨_, rfl⟩
  have T1 := Lib.hid (rTake_small s)
  generalize h1 : rTake s = t1 at *
  have H1 := Lib.hid h1; clear h1 E1
  obtain ⟨a1, s1⟩ := t1
  go_wp2_with fail
  have D2 := Lib.hid (D1.out.store 0 (.int .i64 a1) ⟨a1, 0, 0, ⟨#[]⟩⟩ rfl); clear D1 c0 f0
  refine (rfTake_any s1 _ (Nat.le_trans T1.out.1 Hs.out)).mono ?_
  rintro e w2 ⟨rfl, hb⟩
  have D3 := Lib.hid (D2.out.later hb); clear hb D2
  obtain ⟨⟨-, c1, -, -⟩, hf⟩ := D3.out.cells
  have f1 := hf 1; clear hf
  have T2 := Lib.hid (rTake_small s1)
  generalize h2 : rTake s1 = t2 at *
  have H2 := Lib.hid h2; clear h2
  obtain ⟨a2, s2⟩ := t2
  go_wp2_with fail
  have D4 := Lib.hid (D3.out.store 1 (.int .i64 a2) ⟨a1, a2, 0, ⟨#[]⟩⟩ rfl); clear D3 c1 f1
  refine (rfTake_any s2 _ (Nat.le_trans T2.out.1 (Nat.le_trans T1.out.1 Hs.out))).mono ?_
  rintro e w3 ⟨rfl, hb⟩
  have D5 := Lib.hid (D4.out.later hb); clear hb D4
  obtain ⟨⟨-, -, c2, -⟩, hf⟩ := D5.out.cells
  have f2 := hf 2; clear hf
  have T3 := Lib.hid (rTake_small s2)
  generalize h3 : rTake s2 = t3 at *
  have H3 := Lib.hid h3; clear h3
  obtain ⟨a3, s3⟩ := t3
  go_wp2_with fail
  have D6 := Lib.hid (D5.out.store 2 (.int .i64 a3) ⟨a1, a2, a3, ⟨#[]⟩⟩ rfl); clear D5 c2 f2
  refine (rfTake_any s3 _ (Nat.le_trans T3.out.1 (Nat.le_trans T2.out.1 (Nat.le_trans T1.out.1 Hs.out)))).mono ?_
  rintro e w4 ⟨rfl, hb⟩
  have D7 := Lib.hid (D6.out.later hb); clear hb D6
  obtain ⟨⟨c0, c1, c2, c3⟩, hf⟩ := D7.out.cells
  have f3 := hf 3; clear hf
  have T4 := Lib.hid (rTake_small s3)
  generalize h4 : rTake s3 = t4 at *
  have H4 := Lib.hid h4; clear h4
  obtain ⟨a4, s4⟩ := t4
  have Hdec : Hid (rDec s = if a4 < 0 ∨ a4 ≠ s4.size then (zeroP, 3) else if encP ⟨a1, a2, a3, s4⟩ = (s, 0) then (⟨a1, a2, a3, s4⟩, 0) else (zeroP, 3)) := by
    show _ = _
    unfold rDec rLen rGuess
    simp only [H1.out, H2.out, H3.out, H4.out]
  by_cases h5 : a4 < 0 ∨ a4 ≠ s4.size
  · have he : Hid (rDec s = (zeroP, 3)) := Hdec.out.trans (if_pos h5)
    have hways : a4 < 0 ∨ (0 ≤ a4 ∧ (a4 != (s4.size : Int)) = true) := by
      rcases h5 with h | h
      · exact .inl h
      · by_cases h0 : a4 < 0
        · exact .inl h0
        · exact .inr ⟨by omega, bne_iff_ne.2 h⟩
    clear h5 Hdec c0 c1 c2 c3 f3
    have r0 : w4.cell? ⟨w.heap.size, 0, none⟩ = some (.int .i64 0) := cell_of_heap D7.out.res 0
    have r1 : w4.cell? ⟨w.heap.size, 1, none⟩ = some (.int .i64 0) := cell_of_heap D7.out.res 1
    have r2 : w4.cell? ⟨w.heap.size, 2, none⟩ = some (.int .i64 0) := cell_of_heap D7.out.res 2
    have r3 : w4.cell? ⟨w.heap.size, 3, none⟩ = some (.string ⟨#[]⟩) := cell_of_heap D7.out.res 3
    have g0 : w4.frozen? ⟨w.heap.size, 0, none⟩ = false := frozen_of_heap D7.out.res 0
    have g1 : w4.frozen? ⟨w.heap.size, 1, none⟩ = false := frozen_of_heap D7.out.res 1
    have g2 : w4.frozen? ⟨w.heap.size, 2, none⟩ = false := frozen_of_heap D7.out.res 2
    have g3 : w4.frozen? ⟨w.heap.size, 3, none⟩ = false := frozen_of_heap D7.out.res 3
    rcases hways with h6 | ⟨h6, h7⟩
    all_goals
      go_wp2
      refine bodyPost_ret (v := .tuple #[.agg #[.int .i64 0, .int .i64 0, .int .i64 0, .string ⟨#[]⟩], .int .i64 3]) (by simp [results, Tryz.results29, go_sem, r0, r1, r2, r3]) rfl ?_
      rw [he.out]
      exact ⟨rfl, pBelow_row D7.out.low (pGrown_set4 _ _ _ _ _ _) (Nat.le_refl _) (fun k hk => by cases hk; exact Nat.le_refl _)⟩
  · obtain ⟨h6, h7⟩ : 0 ≤ a4 ∧ a4 = s4.size := by omega
    have Hdec2 : Hid (rDec s = if encP ⟨a1, a2, a3, s4⟩ = (s, 0) then (⟨a1, a2, a3, s4⟩, 0) else (zeroP, 3)) := Hdec.out.trans (if_neg h5)
    clear h5 Hdec
    have h7' : (a4 != (s4.size : Int)) = false := by rw [h7]; simp
    have hd : decide (a4 < 0) = false := decide_eq_false (by omega)
    clear h7 T1 T2 T3 T4 h6
    dsimp only at c0 c1 c2 c3
    go_wp2_with fail
    have D8 := Lib.hid (D7.out.store 3 (.string s4) ⟨a1, a2, a3, s4⟩ rfl)
    generalize w4.setCell ⟨w.heap.size + 1, 3, none⟩ (.string s4) = W8 at *
    refine (rfEncode_any a1 a2 a3 s4 _).mono ?_
    rintro e w5 ⟨rfl, hb⟩
    have D9 := Lib.hid (D8.out.later hb); clear hb D8 D7 c0 c1 c2 c3 f3 h7' hd
    obtain ⟨⟨c0, c1, c2, c3⟩, -⟩ := D9.out.cells
    dsimp only at c0 c1 c2 c3
    generalize encP ⟨a1, a2, a3, s4⟩ = q at *
    obtain ⟨es, q⟩ := q
    dsimp only at *
    have r0 : w5.cell? ⟨w.heap.size, 0, none⟩ = some (.int .i64 0) := cell_of_heap D9.out.res 0
    have r1 : w5.cell? ⟨w.heap.size, 1, none⟩ = some (.int .i64 0) := cell_of_heap D9.out.res 1
    have r2 : w5.cell? ⟨w.heap.size, 2, none⟩ = some (.int .i64 0) := cell_of_heap D9.out.res 2
    have r3 : w5.cell? ⟨w.heap.size, 3, none⟩ = some (.string ⟨#[]⟩) := cell_of_heap D9.out.res 3
    have g0 : w5.frozen? ⟨w.heap.size, 0, none⟩ = false := frozen_of_heap D9.out.res 0
    have g1 : w5.frozen? ⟨w.heap.size, 1, none⟩ = false := frozen_of_heap D9.out.res 1
    have g2 : w5.frozen? ⟨w.heap.size, 2, none⟩ = false := frozen_of_heap D9.out.res 2
    have g3 : w5.frozen? ⟨w.heap.size, 3, none⟩ = false := frozen_of_heap D9.out.res 3
    by_cases h8 : q = 0
    · subst h8
      by_cases h9 : es = s
      · subst h9
        have he : Hid (rDec es = (⟨a1, a2, a3, s4⟩, 0)) := Hdec2.out.trans (if_pos rfl)
        have hx : (es.toList != es.toList) = false := by simp
        clear Hdec2
        go_wp2
        refine bodyPost_ret (v := .tuple #[.agg #[.int .i64 a1, .int .i64 a2, .int .i64 a3, .string s4], .int .i64 0]) (by simp [results, Tryz.results29, go_sem, r0, r1, r2, r3]) rfl ?_
        rw [he.out]
        exact ⟨rfl, pBelow_row D9.out.low (pGrown_set4 _ _ _ _ _ _) (Nat.le_refl _) (fun k hk => by cases hk; exact Nat.le_refl _)⟩
      · have he : Hid (rDec s = (zeroP, 3)) := Hdec2.out.trans (if_neg (fun h => h9 (Prod.mk.inj h).1))
        have hx : (es.toList == s.toList) = false := beq_eq_false_iff_ne.2 (fun h => h9 (ba_of_toList h))
        clear Hdec2 h9
        go_wp2
        refine bodyPost_ret (v := .tuple #[.agg #[.int .i64 0, .int .i64 0, .int .i64 0, .string ⟨#[]⟩], .int .i64 3]) (by simp [results, Tryz.results29, go_sem, r0, r1, r2, r3]) rfl ?_
        rw [he.out]
        exact ⟨rfl, pBelow_row D9.out.low (pGrown_set4 _ _ _ _ _ _) (Nat.le_refl _) (fun k hk => by cases hk; exact Nat.le_refl _)⟩
    · have he : Hid (rDec s = (zeroP, 3)) := Hdec2.out.trans (if_neg (fun h => h8 (Prod.mk.inj h).2))
      have hx : ((q : Int) != 0) = true := bne_iff_ne.2 (by omega)
      clear Hdec2 h8
      go_wp2
      refine bodyPost_ret (v := .tuple #[.agg #[.int .i64 0, .int .i64 0, .int .i64 0, .string ⟨#[]⟩], .int .i64 3]) (by simp [results, Tryz.results29, go_sem, r0, r1, r2, r3]) rfl ?_
      rw [he.out]
      exact ⟨rfl, pBelow_row D9.out.low (pGrown_set4 _ _ _ _ _ _) (Nat.le_refl _) (fun k hk => by cases hk; exact Nat.le_refl _)⟩

end Go.Proofs.YtemmeopaihmlcaaGreatDoor
