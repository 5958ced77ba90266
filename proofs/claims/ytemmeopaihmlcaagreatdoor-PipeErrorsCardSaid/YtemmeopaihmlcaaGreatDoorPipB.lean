/- pipe: Decode. -/
import Derived.Test.YtemmeopaihmlcaaGreatDoorPipA
import Derived.Lib.ConvBytes
namespace Go.Proofs.YtemmeopaihmlcaaGreatDoor
open Go.RowKit
attribute [local go_sem ↓] Go.wp_at_zero Go.wp_at_succ

def pr1 (bs : List UInt8) := rdNum 1073741824 ⟨bs, 0⟩
def pr2 (bs : List UInt8) := rdNum 64 (pr1 bs).2
def pr3 (bs : List UInt8) := rdNum 64 (pr2 bs).2
def pr4 (bs : List UInt8) := rdText 256 (pr3 bs).2
def decPP (bs : List UInt8) : PipeT := ⟨(pr1 bs).1, (pr2 bs).1, (pr3 bs).1, strOf (pr4 bs).1⟩
def zeroP : PipeT := ⟨0, 0, 0, ⟨#[]⟩⟩
/-- What Decode answers. -/
def decP_ (s : ByteArray) : PipeT × Nat := if rdClose (pr4 s.data.toList).2 = 0 ∧ checkP (decPP s.data.toList) = 0 then (decPP s.data.toList, 0) else (zeroP, 3)

theorem pRd_grown {S : Nat → Prop} {b : Nat} {w w' : World} {s : RdS} {row : Option Nat} (h : Rd S b w s) (hb : w.grownBy w' row) (hr : ∀ k, row = some k → ¬ S k) : Rd S b w' s := by
  obtain ⟨hBb, g, off, n, c, p, hh, hsl, hnc, hBg, hgb, hlen⟩ := h
  have hg : n = 0 ∨ g < w.heap.size := by
    rcases Nat.eq_zero_or_pos n with h0 | h0
    · exact .inl h0
    · exact .inr (World.block_lt_of_cell? w _ (hsl.2 0 h0))
  refine ⟨hBb, g, off, n, c, p, (hb.block b (lt_of_heap hh) (fun e => hr b e.symm hBb)).trans hh, ?_, hnc, hBg, hgb, hlen⟩
  rcases hg with rfl | hg
  · exact ⟨hsl.1, fun j hj => by omega⟩
  · exact hsl.kept (hb.block g hg (fun e => hr g e.symm hBg))
theorem pBelow_row {B : Nat} {w w1 w2 : World} {row : Option Nat} (h : Below B w w1) (hg : w1.grownBy w2 row) (hB : B ≤ w.heap.size) (hr : ∀ k, row = some k → B ≤ k) : Below B w w2 :=
  ⟨hg.os.trans h.os, hg.tape.trans h.tape, hg.output.trans h.output, Nat.le_trans h.size hg.size, fun k hk => (hg.block k (Nat.lt_of_lt_of_le hk (Nat.le_trans hB h.size)) (fun e => by have := hr k e.symm; omega)).trans (h.block k hk)⟩
def SrP (L T k : Nat) : Prop := L ≤ k ∧ k < T
/-- In the midst of Decode. -/
structure PDec (wa : World) (L T b : Nat) (wr : World) (p : PipeT) (s : RdS) : Prop where
  heap : wr.heap[T]? = some (.cells (pCells p) 66 (0, 0))
  rd : Rd (SrP L T) b wr s
  below : Below L wa wr
  low : L ≤ T
  wlow : L ≤ wa.heap.size
theorem PDec.read {wa : World} {L T b : Nat} {wr w1 : World} {p : PipeT} {s s' : RdS} (h : PDec wa L T b wr p s) (hr : Rd (SrP L T) b w1 s') (hg : wr.grownBy w1 (some b)) : PDec wa L T b w1 p s' where
  heap := (hg.block T (lt_of_heap h.heap) (fun e => by cases e; exact absurd hr.1.2 (Nat.lt_irrefl _))).trans h.heap
  rd := hr
  below := pBelow_row h.below hg h.wlow (fun k hk => by cases hk; exact hr.1.1)
  low := h.low
  wlow := h.wlow
theorem PDec.store {wa : World} {L T b : Nat} {wr : World} {p : PipeT} {s : RdS} (h : PDec wa L T b wr p s) (i : Nat) (v : Value) (p' : PipeT) (he : (pCells p).setIfInBounds i v = pCells p') : PDec wa L T b (wr.setCell ⟨T, i, none⟩ v) p' s where
  heap := by rw [heap_setCell_same h.heap, he]
  rd := pRd_grown h.rd (grown_setCell _ _ _ _) (fun k hk e => by cases hk; exact absurd e.2 (Nat.lt_irrefl _))
  below := h.below.setCell h.low _
  low := h.low
  wlow := h.wlow
theorem PDec.cell {wa : World} {L T b : Nat} {wr : World} {p : PipeT} {s : RdS} (h : PDec wa L T b wr p s) :
    (wr.cell? ⟨T, 0, none⟩ = some (.int .i64 p.epoch) ∧ wr.cell? ⟨T, 1, none⟩ = some (.int .i64 p.readers) ∧ wr.cell? ⟨T, 2, none⟩ = some (.int .i64 p.writers) ∧ wr.cell? ⟨T, 3, none⟩ = some (.string p.bytes)) ∧ ∀ i, wr.frozen? ⟨T, i, none⟩ = false :=
  ⟨⟨cell_of_heap h.heap 0, cell_of_heap h.heap 1, cell_of_heap h.heap 2, cell_of_heap h.heap 3⟩, fun i => frozen_of_heap h.heap i⟩
theorem pBytes_below (w : World) (e : TypeId) (s : ByteArray) : Below w.heap.size w (Lib.bytesWorld w e s) :=
  ⟨rfl, rfl, rfl, by rw [Lib.bytesWorld_size]; omega, fun k hk => Lib.bytesWorld_at_old w e s k hk⟩
theorem pGrown_set4 (w : World) (R : Nat) (a b c d : Value) : w.grownBy ((((w.setCell ⟨R, 0, none⟩ a).setCell ⟨R, 1, none⟩ b).setCell ⟨R, 2, none⟩ c).setCell ⟨R, 3, none⟩ d) (some R) :=
  grown_trans (grown_trans (grown_trans (grown_setCell _ _ _ _) (grown_setCell _ _ _ _)) (grown_setCell _ _ _ _)) (grown_setCell _ _ _ _)

def pipeV (p : PipeT) : Value := .agg #[.int .i64 p.epoch, .int .i64 p.readers, .int .i64 p.writers, .string p.bytes]
/-- What Decode leaves. -/
def PipePost (w : World) (p : PipeT × Nat) (r : Ending) (w' : World) : Prop := r = .returned (.tuple #[pipeV p.1, .int .i64 p.2]) ∧ Below w.heap.size w w'

set_option maxRecDepth 100000 in
set_option maxHeartbeats 4000000 in
theorem pDecode_any (s : ByteArray) (w : World) (hs2 : s.size ≤ 35184372088832) : Calls Tryz.prog 82 #[.string s] w (PipePost w (decP_ s)) := by
  have hconv := Lib.run_convert_string_bytes (P := Tryz.prog) (w.alloc (.cells #[.int .i64 0, .int .i64 0, .int .i64 0, .string ⟨#[]⟩] 66)) 9 106 5 s Tryz.underlying9 Tryz.underlying106 Tryz.underlying5
  have hR : (w.alloc (.cells #[.int .i64 0, .int .i64 0, .int .i64 0, .string ⟨#[]⟩] 66)).heap[w.heap.size]? = some (.cells #[.int .i64 0, .int .i64 0, .int .i64 0, .string ⟨#[]⟩] 66 (0, 0)) := World.alloc_heap_new w _
  have hbw := pBytes_below (w.alloc (.cells #[.int .i64 0, .int .i64 0, .int .i64 0, .string ⟨#[]⟩] 66)) 5 s
  have hsrc : BSrc (Lib.bytesWorld (w.alloc (.cells #[.int .i64 0, .int .i64 0, .int .i64 0, .string ⟨#[]⟩] 66)) 5 s) (.slice (some ⟨w.heap.size + 1, 0, none⟩) s.size (grownCap (w.alloc (.cells #[.int .i64 0, .int .i64 0, .int .i64 0, .string ⟨#[]⟩] 66)) s.size 0 5)) s.data.toList := by
    refine .inr ⟨_, _, _, rfl, (size_toList s).symm, fun j u hu => ?_⟩
    have hj : j < s.size := by
      rw [← size_toList]
      rcases Nat.lt_or_ge j s.data.toList.length with h | h
      · exact h
      · rw [List.getElem?_eq_none (by simpa using h)] at hu; cases hu
    have hadd : (⟨w.heap.size + 1, 0, none⟩ : Addr).add j = ⟨w.heap.size + 1, j, none⟩ := by unfold Addr.add; split <;> simp_all
    rw [hadd]
    have := Lib.bytesWorld_cell (w.alloc (.cells #[.int .i64 0, .int .i64 0, .int .i64 0, .string ⟨#[]⟩] 66)) 5 s j hj
    rw [World.size_alloc] at this
    rw [this, ← hu]
    have hj' : j < s.data.toList.length := by rw [size_toList]; exact hj
    simp only [List.getElem?_map, List.getElem?_eq_getElem hj', Option.map_some, byteV, List.getD_eq_getElem?_getD, Option.getD_some]
  rw [World.size_alloc] at hconv
  have hRb := (hbw.block w.heap.size (by simp)).trans hR
  have Hwb : Hid (Below w.heap.size w (Lib.bytesWorld (w.alloc (.cells #[.int .i64 0, .int .i64 0, .int .i64 0, .string ⟨#[]⟩] 66)) 5 s)) := ((Below.refl _ _).alloc (Nat.le_refl _) _).trans (hbw.mono (by simp))
  have hwsz : w.heap.size < (Lib.bytesWorld (w.alloc (.cells #[.int .i64 0, .int .i64 0, .int .i64 0, .string ⟨#[]⟩] 66)) 5 s).heap.size := by rw [Lib.bytesWorld_size]; simp; omega
  have Hsrc := Lib.hid hsrc; clear hsrc hbw hR
  have HRb := Lib.hid hRb; clear hRb
  have Hlen : Hid (s.data.toList.length ≤ 35184372088832) := by show _ ≤ _; rw [size_toList]; exact hs2
  clear hs2
  go_enter Tryz.func82, Tryz.ntmps82
  go_wp2_with fail
  generalize Lib.bytesWorld (w.alloc (.cells #[.int .i64 0, .int .i64 0, .int .i64 0, .string ⟨#[]⟩] 66)) 5 s = wb at *
  refine (newReader_any _ s.data.toList _ Hlen.out Hsrc.out (by simp)).mono ?_
  rintro e w1 ⟨b, rfl, hrd, hb1⟩
  clear hconv Hsrc
  have D0 : Hid (PDec wb wb.heap.size w1.heap.size b (w1.alloc (.cells #[.int .i64 0, .int .i64 0, .int .i64 0, .string ⟨#[]⟩] 66)) ⟨0, 0, 0, ⟨#[]⟩⟩ ⟨s.data.toList, 0⟩) :=
    ⟨heap_alloc_new w1 _, Rd.later hrd ((Below.refl _ _).alloc (Nat.le_refl _) _), hb1.alloc hb1.size _, hb1.size, Nat.le_refl _⟩
  clear hrd hb1
  generalize hbs : s.data.toList = bs at *
  have Hbs := Lib.hid hbs; clear hbs
  go_wp2_with fail
  refine (rNumber_any _ b 1073741824 _ _ D0.out.rd).mono ?_
  rintro e w2 ⟨rfl, hr, hg⟩
  have D1 := Lib.hid (D0.out.read hr hg); clear hr hg D0
  obtain ⟨⟨c0, -, -, -⟩, hf⟩ := D1.out.cell
  have f0 := hf 0
  clear hf
  have e1 : rdNum 1073741824 ⟨bs, 0⟩ = pr1 bs := rfl
  rw [e1] at D1
  rw [e1]
  clear e1
  have D1' := Lib.hid (D1.out.store 0 (.int .i64 (pr1 bs).1) ⟨(pr1 bs).1, 0, 0, ⟨#[]⟩⟩ rfl)
  clear D1
  dsimp only at *
  go_wp2_with fail
  refine (rNumber_any _ b 64 _ _ D1'.out.rd).mono ?_
  rintro e w3 ⟨rfl, hr, hg⟩
  have D2 := Lib.hid (D1'.out.read hr hg); clear hr hg D1' c0 f0
  obtain ⟨⟨-, c1, -, -⟩, hf⟩ := D2.out.cell
  have f1 := hf 1
  clear hf
  have e2 : rdNum 64 (pr1 bs).2 = pr2 bs := rfl
  rw [e2] at D2
  rw [e2]
  clear e2
  have D2' := Lib.hid (D2.out.store 1 (.int .i64 (pr2 bs).1) ⟨(pr1 bs).1, (pr2 bs).1, 0, ⟨#[]⟩⟩ rfl)
  clear D2
  dsimp only at *
  go_wp2_with fail
  refine (rNumber_any _ b 64 _ _ D2'.out.rd).mono ?_
  rintro e w4 ⟨rfl, hr, hg⟩
  have D3 := Lib.hid (D2'.out.read hr hg); clear hr hg D2' c1 f1
  obtain ⟨⟨-, -, c2, -⟩, hf⟩ := D3.out.cell
  have f2 := hf 2
  clear hf
  have e3 : rdNum 64 (pr2 bs).2 = pr3 bs := rfl
  rw [e3] at D3
  rw [e3]
  clear e3
  have D3' := Lib.hid (D3.out.store 2 (.int .i64 (pr3 bs).1) ⟨(pr1 bs).1, (pr2 bs).1, (pr3 bs).1, ⟨#[]⟩⟩ rfl)
  clear D3
  dsimp only at *
  go_wp2_with fail
  refine (rText_any _ b 256 _ _ D3'.out.rd).mono ?_
  rintro e w5 ⟨rfl, hr, hg⟩
  have D4 := Lib.hid (D3'.out.read hr hg); clear hr hg D3' c2 f2
  obtain ⟨⟨-, -, -, c3⟩, hf⟩ := D4.out.cell
  have f3 := hf 3
  clear hf
  have e4 : rdText 256 (pr3 bs).2 = pr4 bs := rfl
  rw [e4] at D4
  rw [e4]
  clear e4
  have D6 := Lib.hid (D4.out.store 3 (.string (strOf (pr4 bs).1)) (decPP bs) rfl)
  clear D4
  dsimp only at *
  go_wp2_with fail
  refine (rClose_any _ b _ _ D6.out.rd).mono ?_
  rintro e w6 ⟨rfl, rfl⟩
  clear c3 f3
  generalize w5.setCell ⟨w1.heap.size, 3, none⟩ (.string (strOf (pr4 bs).1)) = w6 at *
  obtain ⟨⟨c0, c1, c2, c3⟩, -⟩ := D6.out.cell
  have hR6 := (D6.out.below.block w.heap.size hwsz).trans HRb.out
  have r0 : w6.cell? ⟨w.heap.size, 0, none⟩ = some (.int .i64 0) := cell_of_heap hR6 0
  have r1 : w6.cell? ⟨w.heap.size, 1, none⟩ = some (.int .i64 0) := cell_of_heap hR6 1
  have r2 : w6.cell? ⟨w.heap.size, 2, none⟩ = some (.int .i64 0) := cell_of_heap hR6 2
  have r3 : w6.cell? ⟨w.heap.size, 3, none⟩ = some (.string ⟨#[]⟩) := cell_of_heap hR6 3
  have g0 : w6.frozen? ⟨w.heap.size, 0, none⟩ = false := frozen_of_heap hR6 0
  have g1 : w6.frozen? ⟨w.heap.size, 1, none⟩ = false := frozen_of_heap hR6 1
  have g2 : w6.frozen? ⟨w.heap.size, 2, none⟩ = false := frozen_of_heap hR6 2
  have g3 : w6.frozen? ⟨w.heap.size, 3, none⟩ = false := frozen_of_heap hR6 3
  have HR6 := Lib.hid hR6; clear hR6
  have HB6 : Hid (Below w.heap.size w w6) := Hwb.out.trans (D6.out.below.mono (Nat.le_of_lt hwsz))
  generalize hcl : rdClose (pr4 bs).2 = q at *
  have Hcl := Lib.hid hcl; clear hcl
  by_cases hq : q = 0
  · subst hq
    generalize hcq : checkP (decPP bs) = q at *
    have Hcq := Lib.hid hcq; clear hcq
    have Hdec : Hid (decP_ s = if (0 : Nat) = 0 ∧ q = 0 then (decPP bs, 0) else (zeroP, 3)) := by show _ = _; unfold decP_; rw [Hbs.out, Hcl.out, Hcq.out]
    have HT6 : Hid (w6.heap[w1.heap.size]? = some (.cells (pCells (decPP bs)) 66 (0, 0))) := D6.out.heap
    clear D6
    generalize decPP bs = p at *
    obtain ⟨ep, re, wr, by_⟩ := p
    dsimp only at *
    go_wp2_with fail
    refine (pCheck_is ep re wr by_ q Hcq.out _).mono ?_
    rintro e w7 ⟨rfl, hb7⟩
    have hR7 := (hb7.block w.heap.size (lt_of_heap HR6.out)).trans HR6.out
    have hT7 := (hb7.block w1.heap.size (lt_of_heap HT6.out)).trans HT6.out
    have H7 : Hid (Below w.heap.size w w7) := HB6.out.trans (hb7.mono (Nat.le_of_lt (lt_of_heap HR6.out)))
    clear r0 r1 r2 r3 g0 g1 g2 g3 c0 c1 c2 c3
    have c0 : w7.cell? ⟨w1.heap.size, 0, none⟩ = some (.int .i64 ep) := cell_of_heap hT7 0
    have c1 : w7.cell? ⟨w1.heap.size, 1, none⟩ = some (.int .i64 re) := cell_of_heap hT7 1
    have c2 : w7.cell? ⟨w1.heap.size, 2, none⟩ = some (.int .i64 wr) := cell_of_heap hT7 2
    have c3 : w7.cell? ⟨w1.heap.size, 3, none⟩ = some (.string by_) := cell_of_heap hT7 3
    have r0 : w7.cell? ⟨w.heap.size, 0, none⟩ = some (.int .i64 0) := cell_of_heap hR7 0
    have r1 : w7.cell? ⟨w.heap.size, 1, none⟩ = some (.int .i64 0) := cell_of_heap hR7 1
    have r2 : w7.cell? ⟨w.heap.size, 2, none⟩ = some (.int .i64 0) := cell_of_heap hR7 2
    have r3 : w7.cell? ⟨w.heap.size, 3, none⟩ = some (.string ⟨#[]⟩) := cell_of_heap hR7 3
    have g0 : w7.frozen? ⟨w.heap.size, 0, none⟩ = false := frozen_of_heap hR7 0
    have g1 : w7.frozen? ⟨w.heap.size, 1, none⟩ = false := frozen_of_heap hR7 1
    have g2 : w7.frozen? ⟨w.heap.size, 2, none⟩ = false := frozen_of_heap hR7 2
    have g3 : w7.frozen? ⟨w.heap.size, 3, none⟩ = false := frozen_of_heap hR7 3
    clear hR7 hT7 hb7
    by_cases hq : q = 0
    · subst hq
      have he : Hid (decP_ s = (⟨ep, re, wr, by_⟩, 0)) := Hdec.out.trans (by simp)
      clear Hdec
      go_wp2
      refine bodyPost_ret (v := .tuple #[.agg #[.int .i64 ep, .int .i64 re, .int .i64 wr, .string by_], .int .i64 0]) (by simp [results, Tryz.results82, go_sem, r0, r1, r2, r3]) rfl ?_
      rw [he.out]
      exact ⟨rfl, pBelow_row H7.out (pGrown_set4 _ _ _ _ _ _) (Nat.le_refl _) (fun k hk => by cases hk; exact Nat.le_refl _)⟩
    · have hq' : ((q : Int) != 0) = true := bne_iff_ne.2 (by omega)
      have he : Hid (decP_ s = (zeroP, 3)) := Hdec.out.trans (by simp [hq])
      clear hq Hdec
      go_wp2
      refine bodyPost_ret (v := .tuple #[.agg #[.int .i64 0, .int .i64 0, .int .i64 0, .string ⟨#[]⟩], .int .i64 3]) (by simp [results, Tryz.results82, go_sem, r0, r1, r2, r3]) rfl ?_
      rw [he.out]
      exact ⟨rfl, pBelow_row H7.out (pGrown_set4 _ _ _ _ _ _) (Nat.le_refl _) (fun k hk => by cases hk; exact Nat.le_refl _)⟩
  · have hq' : ((q : Int) != 0) = true := bne_iff_ne.2 (by omega)
    have he : Hid (decP_ s = (zeroP, 3)) := by show _ = _; unfold decP_; rw [Hbs.out, Hcl.out]; simp [hq]
    clear hq
    go_wp2
    refine bodyPost_ret (v := .tuple #[.agg #[.int .i64 0, .int .i64 0, .int .i64 0, .string ⟨#[]⟩], .int .i64 3]) (by simp [results, Tryz.results82, go_sem, r0, r1, r2, r3]) rfl ?_
    rw [he.out]
    exact ⟨rfl, pBelow_row HB6.out (pGrown_set4 _ _ _ _ _ _) (Nat.le_refl _) (fun k hk => by cases hk; exact Nat.le_refl _)⟩

end Go.Proofs.YtemmeopaihmlcaaGreatDoor
