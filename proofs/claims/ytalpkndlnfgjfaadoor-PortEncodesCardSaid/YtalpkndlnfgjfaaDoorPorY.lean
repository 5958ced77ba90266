/- PortEncodes: the walk. -/
import Derived.Test.YtalpkndlnfgjfaaDoorPorX
import Derived.Test.YtalpkndlnfgjfaaDoorPorV
import Derived.Test.YtalpkndlnfgjfaaDoorPorE
import Derived.Test.YtalpkndlnfgjfaaDoorPorI
namespace Go.Proofs.YtalpkndlnfgjfaaDoor
open Go.RowKit
attribute [local go_sem ↓] Go.wp_at_zero Go.wp_at_succ

theorem encQ_err (p : PortT) : (encQ p).2 = checkQ p := by
  unfold encQ
  by_cases h : checkQ p = 0
  · rw [if_pos h]; exact h.symm
  · rw [if_neg h]

set_option maxRecDepth 100000 in
set_option maxHeartbeats 1600000 in
theorem encodes_any (ow : ByteArray) (ep lo : Int) (a : Option Addr) (n c : Nat) (ls : List PackT) (w : World) (hs : PSl w a n ls) (hn : n ≤ 9223372036854775807) (hls : ∀ s ∈ ls, s.src.size ≤ 9223372036854775807 ∧ s.bytes.size ≤ 9223372036854775807) (hu : Usages w) :
    Calls Tryd.prog 3 #[.agg #[.string ow, .int .i64 ep, .int .i64 lo, .slice a n c]] w (TruePost w) := by
  have Hu := Lib.hid hu; clear hu
  have Ha : Hid (∀ o, Below w.heap.size w (w.alloc o)) := fun o => (Below.refl _ _).alloc (Nat.le_refl _) _
  have HX0 : Hid (∀ o, (w.alloc o).heap[w.heap.size]? = some o) := fun o => heap_alloc_new w o
  obtain ⟨wn, hwn, hsh⟩ := short_any ow ep lo a n c ls (w.alloc (.cells #[.string ow, .int .i64 ep, .int .i64 lo, .slice a n c] 25)) (hs.later (Ha.out _)) hn hls
  have Hsh := Lib.hid hsh; clear hsh hs hls hn
  have Hsz := Lib.hid (shortL_size ls)
  generalize shortL ls = sl at *
  go_enter Tryd.func3, Tryd.ntmps3
  go_wp2_with fail
  refine Hsh.out.mono ?_
  rintro e w1 ⟨a1, n1, c1, rfl, hrow, hl, hb⟩
  have hX1 := (hb.block _ (lt_of_heap (HX0.out _))).trans (HX0.out _)
  have HB1 : Hid (Below w.heap.size w w1) := (Ha.out _).trans (hb.mono (Ha.out _).size)
  have Hlie : Hid (∀ g, (Value.slice a1 n1 c1).ownBlock = some g → g ≠ w.heap.size) := fun g hg => by have := hl g hg; simp at this; omega
  have Hrow := Lib.hid hrow
  clear hb hl hrow Hsh HX0 Ha
  have x0 : w1.cell? ⟨w.heap.size, 0, none⟩ = some (.string ow) := cell_of_heap hX1 0
  have x1 : w1.cell? ⟨w.heap.size, 1, none⟩ = some (.int .i64 ep) := cell_of_heap hX1 1
  have x2 : w1.cell? ⟨w.heap.size, 2, none⟩ = some (.int .i64 lo) := cell_of_heap hX1 2
  have x3 : w1.cell? ⟨w.heap.size, 3, none⟩ = some (.slice a n c) := cell_of_heap hX1 3
  have g0 : w1.frozen? ⟨w.heap.size, 0, none⟩ = false := frozen_of_heap hX1 0
  have g1 : w1.frozen? ⟨w.heap.size, 1, none⟩ = false := frozen_of_heap hX1 1
  have g2 : w1.frozen? ⟨w.heap.size, 2, none⟩ = false := frozen_of_heap hX1 2
  have g3 : w1.frozen? ⟨w.heap.size, 3, none⟩ = false := frozen_of_heap hX1 3
  have HX2 := Lib.hid (heap_setCell_same (heap_setCell_same (heap_setCell_same (heap_setCell_same hX1 0 (.string wn)) 1 (.int .i64 ep)) 2 (.int .i64 lo)) 3 (.slice a1 n1 c1))
  have HP2 := Lib.hid (Hrow.out.grown (grown_set4 w1 w.heap.size (.string wn) (.int .i64 ep) (.int .i64 lo) (.slice a1 n1 c1)) (fun k hk e => by cases hk; exact Hlie.out _ e rfl)).sl
  have HB2 := Lib.hid (Below.grownRow HB1.out (grown_set4 w1 w.heap.size (.string wn) (.int .i64 ep) (.int .i64 lo) (.slice a1 n1 c1)) (Nat.le_refl _) (fun k hk => by cases hk; exact Nat.le_refl _))
  clear hX1
  go_upto_region 2 with fail
  generalize (((w1.setCell ⟨w.heap.size, 0, none⟩ (.string wn)).setCell ⟨w.heap.size, 1, none⟩ (.int .i64 ep)).setCell ⟨w.heap.size, 2, none⟩ (.int .i64 lo)).setCell ⟨w.heap.size, 3, none⟩ (.slice a1 n1 c1) = W2 at *
  clear x0 x1 x2 x3 g0 g1 g2 g3 Hlie Hrow HB1
  have x0 : W2.cell? ⟨w.heap.size, 0, none⟩ = some (.string wn) := cell_of_heap HX2.out 0
  have x1 : W2.cell? ⟨w.heap.size, 1, none⟩ = some (.int .i64 ep) := cell_of_heap HX2.out 1
  have x2 : W2.cell? ⟨w.heap.size, 2, none⟩ = some (.int .i64 lo) := cell_of_heap HX2.out 2
  have x3 : W2.cell? ⟨w.heap.size, 3, none⟩ = some (.slice a1 n1 c1) := cell_of_heap HX2.out 3
  have hn1 : n1 ≤ 20 := by rw [← HP2.out.1]; exact Hsz.out.1
  have Hls : Hid (∀ x ∈ sl, x.src.size ≤ 70368744177664 ∧ x.bytes.size ≤ 70368744177664) := fun x hx => by have := Hsz.out.2 x hx; omega
  obtain ⟨cq, hcq⟩ : ∃ cq, checkQ ⟨wn, ep, lo, sl⟩ = cq := ⟨_, rfl⟩
  have Hcq := Lib.hid hcq; clear hcq
  obtain ⟨es, hes⟩ : ∃ es, encQ ⟨wn, ep, lo, sl⟩ = (es, cq) := ⟨(encQ ⟨wn, ep, lo, sl⟩).1, by rw [← Hcq.out, ← encQ_err]⟩
  have Hes := Lib.hid hes; clear hes
  go_wp2_with fail
  refine (qEncode_any wn ep lo a1 n1 c1 sl _ HP2.out (by omega) (by omega) Hls.out).mono ?_
  rw [Hes.out]
  rintro e w3 ⟨rfl, hb⟩
  have HX3 := Lib.hid ((hb.block _ (lt_of_heap HX2.out)).trans HX2.out)
  have HP3 := Lib.hid (HP2.out.later hb)
  have HB3 : Hid (Below w.heap.size w w3) := HB2.out.trans (hb.mono HB2.out.size)
  clear hb HX2 HP2 HB2
  clear x0 x1 x2 x3
  go_wp2_with fail
  refine (qKnown_any _ (Hu.out.below HB3.out Hu.out.pos)).mono ?_
  rintro e w4 ⟨rfl, hb⟩
  have HX4 := Lib.hid ((hb.block _ (lt_of_heap HX3.out)).trans HX3.out)
  have HP4 := Lib.hid (HP3.out.later hb)
  have HB4 : Hid (Below w.heap.size w w4) := HB3.out.trans (hb.mono HB3.out.size)
  clear hb HX3 HP3 HB3
  have x0 : w4.cell? ⟨w.heap.size, 0, none⟩ = some (.string wn) := cell_of_heap HX4.out 0
  have x1 : w4.cell? ⟨w.heap.size, 1, none⟩ = some (.int .i64 ep) := cell_of_heap HX4.out 1
  have x2 : w4.cell? ⟨w.heap.size, 2, none⟩ = some (.int .i64 lo) := cell_of_heap HX4.out 2
  have x3 : w4.cell? ⟨w.heap.size, 3, none⟩ = some (.slice a1 n1 c1) := cell_of_heap HX4.out 3
  go_wp2_with fail
  refine (lCheck_is wn ep lo a1 n1 c1 sl cq Hcq.out _ HP4.out (by omega) (by omega) Hls.out).mono ?_
  rintro e w5 ⟨rfl, hb⟩
  have HX5 := Lib.hid ((hb.block _ (lt_of_heap HX4.out)).trans HX4.out)
  have HP5 := Lib.hid (HP4.out.later hb)
  have HB5 : Hid (Below w.heap.size w w5) := HB4.out.trans (hb.mono HB4.out.size)
  clear hb HX4 HP4 HB4
  clear x0 x1 x2 x3
  have x0 : w5.cell? ⟨w.heap.size, 0, none⟩ = some (.string wn) := cell_of_heap HX5.out 0
  have x1 : w5.cell? ⟨w.heap.size, 1, none⟩ = some (.int .i64 ep) := cell_of_heap HX5.out 1
  have x2 : w5.cell? ⟨w.heap.size, 2, none⟩ = some (.int .i64 lo) := cell_of_heap HX5.out 2
  have x3 : w5.cell? ⟨w.heap.size, 3, none⟩ = some (.slice a1 n1 c1) := cell_of_heap HX5.out 3
  go_wp2_with fail
  refine (portCheck_is wn ep lo a1 n1 c1 sl cq Hcq.out _ HP5.out (by omega) (by omega) Hls.out).mono ?_
  rintro e w6 ⟨rfl, hb⟩
  have HX6 := Lib.hid ((hb.block _ (lt_of_heap HX5.out)).trans HX5.out)
  have HP6 := Lib.hid (HP5.out.later hb)
  have HB6 : Hid (Below w.heap.size w w6) := HB5.out.trans (hb.mono HB5.out.size)
  clear hb HX5 HP5 HB5
  clear x0 x1 x2 x3
  by_cases h0 : cq = 0
  · subst h0
    have how : wn.size ≤ 64 := by have := valid_small (checkQ_ok Hcq.out).1; dsimp only at this; omega
    have hee : encQ ⟨wn, ep, lo, sl⟩ = (strOf (encQB ⟨wn, ep, lo, sl⟩), 0) := if_pos Hcq.out
    rw [Hes.out] at hee
    have He : Hid (es = strOf (encQB ⟨wn, ep, lo, sl⟩)) := (Prod.mk.inj hee).1
    clear hee
    have Hdec : Hid (decQ es = (⟨wn, ep, lo, sl⟩, 0)) := by show _ = _; rw [He.out]; exact qdec_enc _ Hcq.out how
    have hsz : es.size ≤ 35184372088832 := by rw [He.out]; exact Nat.le_trans (encQB_size Hcq.out how) (by decide)
    go_wp2_with fail
    refine (qDecode_any es _ hsz).mono ?_
    rw [Hdec.out]
    rintro e w7 ⟨a2, n2, c2, rfl, hrow, -, hb⟩
    have HXa : Hid (∀ o, (w7.alloc o).heap[w.heap.size]? = some (.cells #[.string wn, .int .i64 ep, .int .i64 lo, .slice a1 n1 c1] 25 (0, 0))) := fun o => (Below.heap_alloc w7 o _ (Nat.lt_of_lt_of_le (lt_of_heap HX6.out) hb.size)).trans ((hb.block _ (lt_of_heap HX6.out)).trans HX6.out)
    have HPa : Hid (∀ o, PSl (w7.alloc o) a1 n1 sl) := fun o => (HP6.out.later hb).later ((Below.refl _ _).alloc (Nat.le_refl _) _)
    have HQa : Hid (∀ o, PSl (w7.alloc o) a2 n2 sl) := fun o => hrow.sl.later ((Below.refl _ _).alloc (Nat.le_refl _) _)
    have HYa : Hid (∀ o, (w7.alloc o).heap[w7.heap.size]? = some o) := fun o => heap_alloc_new w7 o
    have HBa : Hid (∀ o, Below w.heap.size w (w7.alloc o)) := fun o => (HB6.out.trans (hb.mono HB6.out.size)).alloc (Nat.le_trans HB6.out.size hb.size) _
    have hn2 : n2 ≤ 20 := by have h1 := hrow.sl.1; have h2 := Hsz.out.1; (try dsimp only at h1); omega
    clear hb hrow
    dsimp only
    go_upto_region 8 with fail
    have HX8 := Lib.hid (HXa.out (.cells #[.string wn, .int .i64 ep, .int .i64 lo, .slice a2 n2 c2] 25))
    have HP8 := Lib.hid (HPa.out (.cells #[.string wn, .int .i64 ep, .int .i64 lo, .slice a2 n2 c2] 25))
    have HQ8 := Lib.hid (HQa.out (.cells #[.string wn, .int .i64 ep, .int .i64 lo, .slice a2 n2 c2] 25))
    have HY8 := Lib.hid (HYa.out (.cells #[.string wn, .int .i64 ep, .int .i64 lo, .slice a2 n2 c2] 25))
    have HB8 := Lib.hid (HBa.out (.cells #[.string wn, .int .i64 ep, .int .i64 lo, .slice a2 n2 c2] 25))
    clear HXa HPa HQa HYa HBa HX6 HP6 HB6
    generalize w7.alloc (.cells #[.string wn, .int .i64 ep, .int .i64 lo, .slice a2 n2 c2] 25) = w8 at *
    generalize w7.heap.size = Y at *
    have x0 : w8.cell? ⟨w.heap.size, 0, none⟩ = some (.string wn) := cell_of_heap HX8.out 0
    have x1 : w8.cell? ⟨w.heap.size, 1, none⟩ = some (.int .i64 ep) := cell_of_heap HX8.out 1
    have x2 : w8.cell? ⟨w.heap.size, 2, none⟩ = some (.int .i64 lo) := cell_of_heap HX8.out 2
    have x3 : w8.cell? ⟨w.heap.size, 3, none⟩ = some (.slice a1 n1 c1) := cell_of_heap HX8.out 3
    go_wp2_with fail
    refine (lEncode_any wn ep lo a1 n1 c1 sl _ HP8.out how Hcq.out).mono ?_
    rw [← He.out]
    rintro e w9 ⟨rfl, hb⟩
    have HX9 := Lib.hid ((hb.block _ (lt_of_heap HX8.out)).trans HX8.out)
    have HY9 := Lib.hid ((hb.block _ (lt_of_heap HY8.out)).trans HY8.out)
    have HP9 := Lib.hid (HP8.out.later hb)
    have HQ9 := Lib.hid (HQ8.out.later hb)
    have HB9 : Hid (Below w.heap.size w w9) := HB8.out.trans (hb.mono HB8.out.size)
    clear hb HX8 HY8 HP8 HQ8 HB8 x0 x1 x2 x3
    have x0 : w9.cell? ⟨w.heap.size, 0, none⟩ = some (.string wn) := cell_of_heap HX9.out 0
    have x1 : w9.cell? ⟨w.heap.size, 1, none⟩ = some (.int .i64 ep) := cell_of_heap HX9.out 1
    have x2 : w9.cell? ⟨w.heap.size, 2, none⟩ = some (.int .i64 lo) := cell_of_heap HX9.out 2
    have x3 : w9.cell? ⟨w.heap.size, 3, none⟩ = some (.slice a1 n1 c1) := cell_of_heap HX9.out 3
    have y0 : w9.cell? ⟨Y, 0, none⟩ = some (.string wn) := cell_of_heap HY9.out 0
    have y1 : w9.cell? ⟨Y, 1, none⟩ = some (.int .i64 ep) := cell_of_heap HY9.out 1
    have y2 : w9.cell? ⟨Y, 2, none⟩ = some (.int .i64 lo) := cell_of_heap HY9.out 2
    have y3 : w9.cell? ⟨Y, 3, none⟩ = some (.slice a2 n2 c2) := cell_of_heap HY9.out 3
    go_wp2_with fail
    refine (qEqual_any wn wn ep lo ep lo a1 a2 n1 c1 n2 c2 sl sl _ HP9.out HQ9.out (by omega) (by omega)).mono ?_
    rw [show decide ((⟨wn, ep, lo, sl⟩ : PortT) = ⟨wn, ep, lo, sl⟩) = true from decide_eq_true rfl]
    rintro e w10 ⟨rfl, hb⟩
    have HB10 : Hid (Below w.heap.size w w10) := HB9.out.trans (hb.mono HB9.out.size)
    clear hb
    go_wp2
    go_ret
    exact ⟨rfl, HB10.out⟩
  · have hee : encQ ⟨wn, ep, lo, sl⟩ = (⟨#[]⟩, checkQ ⟨wn, ep, lo, sl⟩) := if_neg (by rw [Hcq.out]; exact h0)
    rw [Hes.out] at hee
    obtain rfl : es = ⟨#[]⟩ := (Prod.mk.inj hee).1
    clear hee
    have h0' : ((cq : Int) != 0) = true := bne_iff_ne.2 (by omega)
    clear h0
    go_wp2
    go_ret
    exact ⟨rfl, HB6.out⟩

end Go.Proofs.YtalpkndlnfgjfaaDoor
