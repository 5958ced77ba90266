/- port: Encode. -/
import Derived.Test.YtijfdgoeppehlaaGreatDoorPorB
import Derived.Test.YtijfdgoeppehlaaGreatDoorViewB
namespace Go.Proofs.YtijfdgoeppehlaaGreatDoor
open Go.RowKit
attribute [local go_sem ↓] Go.wp_at_zero Go.wp_at_succ

set_option maxRecDepth 100000 in
set_option maxHeartbeats 800000 in
/-- Text of the Writer leaves a block alone that is not its own. -/
theorem textX_any (B b X : Nat) (bs : List UInt8) (s : ByteArray) (w : World) (v : Value) (hs : s.size ≤ 16777216) (hlen : bs.length ≤ 1099511627776) (hB : B ≤ w.heap.size) (hBb : B ≤ b) (hh : w.heap[b]? = some (.cells #[v, .int .i64 0] 140 (0, 0))) (hrow : BRow w v bs) (hlie : ∀ g, v.ownBlock = some g → B ≤ g ∧ g ≠ b)
    (hX : X < w.heap.size) (hXb : X ≠ b) (hXv : v.ownBlock ≠ some X) :
    Calls Tryz.prog 48 #[.pointer (some ⟨b, 0, none⟩), .string s] w (fun r w' => WrPost B b w (bs ++ natBytes s.size ++ s.data.toList) r w' ∧ w'.heap[X]? = w.heap[X]?) := by
  have hc0 : w.cell? ⟨b, 0, none⟩ = some v := by simp [World.cell?, hh]
  have Hh := Lib.hid hh; clear hh
  have Hlie := Lib.hid hlie; clear hlie
  have Hlen := Lib.hid hlen; clear hlen
  have Hrow := Lib.hid hrow; clear hrow
  have HXv := Lib.hid hXv; clear hXv
  have HX := Lib.hid hX; clear hX
  have HXb := Lib.hid hXb; clear hXb
  have hgt : ¬ (16777216 < (s.size : Int)) := by omega
  go_enter Tryz.func48, Tryz.ntmps48
  go_wp2_with fail
  refine (works_any b 0 v _ Hh.out).mono ?_
  rintro e w' ⟨rfl, rfl⟩
  go_wp2_with fail
  refine (appendNatural_any v bs s.size _ (by omega) Hlen.out Hrow.out).mono ?_
  rintro e w1 ⟨g, m, cap, rfl, hrow1, hg1, hl1⟩
  have hb1 := wr_later Hh.out Hlie.out hg1
  have hgb := wr_apart Hh.out Hlie.out hl1
  have Hb1 := Lib.hid hb1; clear hb1
  have Hg1 := Lib.hid hg1; clear hg1
  have Hl1 := Lib.hid hl1; clear hl1
  have Hrow1 := Lib.hid hrow1; clear hrow1
  have Hl : Hid ((bs ++ natBytes s.size).length + s.size ≤ 70368744177664) := by
    show _ ≤ _
    have h1 := Hlen.out
    have h2 := natBytes_length s.size
    simp; omega
  go_wp2_with (at_builtin; refine wpList_append_str rfl _ _ rfl g m cap _ rfl Hrow1.out s rfl Hl.out ?_; intro g2 m2 cap2 w2 hrow2 hg2 hl2; have hb2 := (hg2.block b (Nat.lt_of_lt_of_le (lt_of_heap Hh.out) Hg1.out.size) (fun e => hgb.2 (by cases e; rfl))).trans Hb1.out; have hc2 : w2.cell? ⟨b, 0, none⟩ = some v := cell_of_heap hb2 0; have hf2 : w2.frozen? ⟨b, 0, none⟩ = false := frozen_of_heap hb2 0; have Hb2 := Lib.hid hb2; clear hb2; have Hg2 := Lib.hid hg2; clear hg2; have Hl2 := Lib.hid hl2; clear hl2; have Hrow2 := Lib.hid hrow2; clear hrow2)
  go_end0
  refine ⟨⟨rfl, wr_stored hBb hB Hh.out Hlie.out (grown_step Hg1.out (v' := .slice (some ⟨g, 0, none⟩) m cap) (fun g' hg' => ?_) Hg2.out) ?_ Hrow2.out⟩, ?_⟩
  · obtain rfl : g = g' := by simpa [Value.ownBlock] using hg'
    exact Hl1.out
  · rcases Hl2.out with h | h
    · rw [h]; exact Hl1.out
    · exact .inr (Nat.le_trans Hg1.out.size h)
  · have hXX := HX.out
    have hgX : g ≠ X := by
      rcases Hl1.out with h | h
      · exact fun e => HXv.out (by rw [← e]; exact h)
      · omega
    rw [Below.heap_setCell _ _ _ _ (show X ≠ b from HXb.out)]
    exact (Hg2.out.block X (Nat.lt_of_lt_of_le hXX Hg1.out.size) (fun e => hgX (by simpa [Value.ownBlock] using e.symm))).trans (Hg1.out.block X hXX (fun e => HXv.out e.symm))

set_option maxRecDepth 100000 in
set_option maxHeartbeats 4000000 in
theorem qEncode_any (ow : ByteArray) (ep lo : Int) (a : Option Addr) (n c : Nat) (ls : List PackT) (w : World) (hs : PSl w a n ls) (how : ow.size ≤ 65536) (hn : n ≤ 70368744177664) (hls : ∀ s ∈ ls, s.src.size ≤ 70368744177664 ∧ s.bytes.size ≤ 70368744177664) :
    Calls Tryz.prog 64 #[.agg #[.string ow, .int .i64 ep, .int .i64 lo, .slice a n c]] w fun r w' => r = .returned (.tuple #[.string (encQ ⟨ow, ep, lo, ls⟩).1, .int .i64 (encQ ⟨ow, ep, lo, ls⟩).2]) ∧ Below w.heap.size w w' := by
  have Hs := Lib.hid hs; clear hs
  have Hls := Lib.hid hls; clear hls
  have Hbx : Hid (∀ v t, Below w.heap.size w (w.alloc (.cells v t))) := fun v t => (Below.refl _ _).alloc (Nat.le_refl _) _
  generalize hq : checkQ ⟨ow, ep, lo, ls⟩ = q at *
  have Hq := Lib.hid hq; clear hq
  go_enter Tryz.func64, Tryz.ntmps64
  go_wp2_with fail
  refine (portCheck_is ow ep lo a n c ls q Hq.out _ (Hs.out.later (Hbx.out _ _)) (by omega) hn Hls.out).mono ?_
  rintro e w1 ⟨rfl, hb1⟩
  have hqc : ∀ j, w1.cell? ⟨w.heap.size, j, none⟩ = (#[.string ow, .int .i64 ep, .int .i64 lo, .slice a n c] : Array Value)[j]? := fun j => ((bcell hb1).1 _ _ (by simp)).trans (cell_of_heap (World.alloc_heap_new w _) j)
  have Hb1 : Hid (Below w.heap.size w w1) := (Hbx.out _ _).trans (hb1.mono (by simp))
  have hsz1 : w.heap.size < w1.heap.size := by have := hb1.size; simp at this; omega
  clear hb1
  by_cases h0 : q = 0
  · obtain ⟨_, hep, hlo, hn16, hl0⟩ := checkQ_ok (Hq.out.trans h0)
    dsimp only at hep hlo hn16 hl0
    have hsize : ∀ s ∈ ls, s.src.size ≤ 32 ∧ s.bytes.size ≤ 512 := fun s h => packE_size (packsE_size hl0 s h)
    have Hsize := Lib.hid hsize; clear hsize hl0
    subst h0
    have hln := Hs.out.1
    have he : Hid (encQ ⟨ow, ep, lo, ls⟩ = (strOf (encQB ⟨ow, ep, lo, ls⟩), 0)) := by show _ = _; simp [encQ, Hq.out]
    have Hln := Lib.hid hln; clear hln
    have hn16' : n ≤ 16 := by rw [Hln.out] at hn16; exact hn16
    clear hn16 hn
    go_wp2_with fail
    refine (newWriter_any _).mono ?_
    rintro e w2 ⟨rfl, rfl⟩
    have Hwr := Lib.hid (wr_box (w := w1))
    have hB0 : Below w1.heap.size w1 (w1.alloc (.cells #[.slice none 0 0, .int .i64 0] 140)) := (Below.refl _ _).alloc (Nat.le_refl _) _
    generalize w1.alloc (.cells #[.slice none 0 0, .int .i64 0] 140) = w2 at *
    have hc0 : w2.cell? ⟨w.heap.size, 0, none⟩ = some (.string ow) := ((bcell hB0).1 _ _ hsz1).trans (hqc 0)
    have HB2 := Lib.hid hB0; clear hB0
    have Hqc := Lib.hid hqc; clear hqc
    go_wp2_with fail
    refine (text_any w1.heap.size w1.heap.size [] ow _ (by omega) (by simp) HB2.out.size Hwr.out).mono ?_
    rintro e w3 ⟨rfl, hwr, hb⟩
    have HB3 : Hid (Below w1.heap.size w1 w3) := HB2.out.trans hb
    clear HB2 Hwr hc0 hb
    have Hwr := Lib.hid hwr; clear hwr
    have hc1 : w3.cell? ⟨w.heap.size, 1, none⟩ = some (.int .i64 ep) := ((bcell HB3.out).1 _ _ hsz1).trans (Hqc.out 1)
    have hl3 : Hid (([] ++ natBytes ow.size ++ ow.data.toList).length ≤ 65546) := by
      show _ ≤ _
      have h2 := natBytes_length ow.size
      simp only [List.nil_append, List.length_append, size_toList]
      omega
    go_wp2_with fail
    refine (number_any w1.heap.size w1.heap.size _ ep _ hep.1 (by omega) (by have := hl3.out; omega) HB3.out.size Hwr.out).mono ?_
    rintro e w4 ⟨rfl, hwr, hb⟩
    have HB4 : Hid (Below w1.heap.size w1 w4) := HB3.out.trans hb
    clear HB3 Hwr hc1 hb
    have Hwr := Lib.hid hwr; clear hwr
    have hc2 : w4.cell? ⟨w.heap.size, 2, none⟩ = some (.int .i64 lo) := ((bcell HB4.out).1 _ _ hsz1).trans (Hqc.out 2)
    have hl4 : Hid (([] ++ natBytes ow.size ++ ow.data.toList ++ natBytes ep.toNat).length ≤ 65556) := by
      show _ ≤ _
      have h1 := hl3.out
      have h2 := natBytes_length ep.toNat
      rw [List.length_append]
      omega
    go_wp2_with fail
    refine (number_any w1.heap.size w1.heap.size _ lo _ hlo.1 (by omega) (by have := hl4.out; omega) HB4.out.size Hwr.out).mono ?_
    rintro e w5 ⟨rfl, hwr, hb⟩
    have HB5 : Hid (Below w1.heap.size w1 w5) := HB4.out.trans hb
    clear HB4 Hwr hc2 hb
    have Hwr := Lib.hid hwr; clear hwr
    have hc3 : w5.cell? ⟨w.heap.size, 3, none⟩ = some (.slice a n c) := ((bcell HB5.out).1 _ _ hsz1).trans (Hqc.out 3)
    have hl5 : Hid (([] ++ natBytes ow.size ++ ow.data.toList ++ natBytes ep.toNat ++ natBytes lo.toNat).length ≤ 65566) := by
      show _ ≤ _
      have h1 := hl4.out
      have h2 := natBytes_length lo.toNat
      rw [List.length_append]
      omega
    go_wp2_with fail
    refine (number_any w1.heap.size w1.heap.size _ (n : Int) _ (by omega) (by omega) (by have := hl5.out; omega) HB5.out.size Hwr.out).mono ?_
    rintro e w6 ⟨rfl, hwr, hb⟩
    have HB6 : Hid (Below w1.heap.size w1 w6) := HB5.out.trans hb
    clear HB5 hc3 hb
    have hhead : Hid ([] ++ natBytes ow.size ++ ow.data.toList ++ natBytes ep.toNat ++ natBytes lo.toNat ++ natBytes (n : Int).toNat = headQ ⟨ow, ep, lo, ls⟩) := by
      show _ = _
      simp [headQ, textB, Hln.out]
    have hlenH : Hid ((headQ ⟨ow, ep, lo, ls⟩).length ≤ 65576) := by
      show _ ≤ _
      rw [← hhead.out]
      have h1 := hl5.out
      have h2 := natBytes_length (n : Int).toNat
      rw [List.length_append]
      omega
    rw [hhead.out] at hwr
    clear Hwr hl3 hl4 hl5
    have Hwr := Lib.hid hwr; clear hwr
    have hc3 : w6.cell? ⟨w.heap.size, 3, none⟩ = some (.slice a n c) := ((bcell HB6.out).1 _ _ hsz1).trans (Hqc.out 3)
    go_wp2
    go_loopw [36] (fun i wr => ∃ k : Nat, k ≤ n ∧ i = .int .i64 k ∧ Hid (Wr w1.heap.size w1.heap.size wr (headQ ⟨ow, ep, lo, ls⟩ ++ packsB (ls.take k))) ∧ Hid (Below w1.heap.size w1 wr)) (fun i _ => n - (intOf i).toNat)
    case atStart => exact ⟨0, by omega, rfl, by show Wr _ _ _ _; simpa [packsB] using Hwr.out, HB6.out⟩
    case round =>
      obtain ⟨k, hk, rfl, HW, HB⟩ := hrel
      clear HB6 Hwr
      by_cases h4 : k < n
      · obtain ⟨g, off, rfl, hcell⟩ := (Hs.out.later Hb1.out).2 (by omega)
        have hlt := World.block_lt_of_cell? w1 ⟨g, _, none⟩ (hcell k h4).1
        have hck1 : wr.cell? ⟨g, off + k * 2, none⟩ = some (.string (ls.getD k zeroPk).src) := ((bcell HB.out).1 _ _ hlt).trans (hcell k h4).1
        have hck2 : wr.cell? ⟨g, off + k * 2 + 1, none⟩ = some (.string (ls.getD k zeroPk).bytes) := ((bcell HB.out).1 _ _ hlt).trans (hcell k h4).2
        clear hlt
        have hkl : k < ls.length := by rw [Hln.out]; exact h4
        have hmem : ls.getD k zeroPk ∈ ls := by
          rw [List.getD_eq_getElem?_getD, List.getElem?_eq_getElem hkl]
          exact List.getElem_mem _
        have hszk := Hsize.out _ hmem
        have Hsnoc := Lib.hid (packsB_snoc ls k hkl)
        have hll : Hid ((headQ ⟨ow, ep, lo, ls⟩ ++ packsB (ls.take k)).length ≤ 1099510000000) := by
          show _ ≤ _
          have h1 := hlenH.out
          have h2 := packsB_length (ls := ls.take k) (fun s h => Hsize.out s (List.mem_of_mem_take h))
          have h3 : (ls.take k).length ≤ k := by simp; omega
          rw [List.length_append]
          omega
        clear hcell hmem
        have Hkl := Lib.hid hkl; clear hkl
        generalize ls.getD k zeroPk = lk at *
        obtain ⟨src, by_⟩ := lk
        dsimp only at *
        have Hxa : Hid (∀ o, (wr.alloc o).heap[wr.heap.size]? = some o) := fun o => heap_alloc_new wr o
        have HT : Hid (∀ o, Calls Tryz.prog 48 #[.pointer (some ⟨w1.heap.size, 0, none⟩), .string src] (wr.alloc o) (fun r w' => WrPost w1.heap.size w1.heap.size (wr.alloc o) (headQ ⟨ow, ep, lo, ls⟩ ++ packsB (ls.take k) ++ natBytes src.size ++ src.data.toList) r w' ∧ w'.heap[wr.heap.size]? = some o)) := fun o => by
          obtain ⟨hBb, v, hh, hrow, hlie⟩ := HW.out
          have hlt := lt_of_heap hh
          refine (textX_any w1.heap.size w1.heap.size wr.heap.size _ src (wr.alloc o) v (by omega) (Nat.le_trans hll.out (by decide)) (by have := HB.out.size; simp; omega) hBb ((Below.heap_alloc wr o _ hlt).trans hh) (World.ownsRow.alloc hrow o) hlie (by simp) (by omega) (fun e => by obtain ⟨cur, hc⟩ := row_lt hrow e; exact absurd (lt_of_heap hc) (Nat.lt_irrefl _))).mono ?_
          rintro r w' ⟨h1, h2⟩
          exact ⟨h1, h2.trans (Hxa.out o)⟩
        have HBa : Hid (∀ o, Below w1.heap.size w1 (wr.alloc o)) := fun o => HB.out.alloc HB.out.size _
        have hwsz : w1.heap.size ≤ wr.heap.size := HB.out.size
        go_wp2_with fail
        refine (HT.out _).mono ?_
        rintro e w7 ⟨⟨rfl, hwr, hb⟩, hx7⟩
        have HWn := Lib.hid hwr; clear hwr
        have HB7 : Hid (Below w1.heap.size w1 w7) := (HBa.out _).trans hb
        clear hb
        have x1 : w7.cell? ⟨wr.heap.size, 1, none⟩ = some (.string by_) := cell_of_heap hx7 1
        have hl7 : Hid ((headQ ⟨ow, ep, lo, ls⟩ ++ packsB (ls.take k) ++ natBytes src.size ++ src.data.toList).length ≤ 1099511627776) := by
          show _ ≤ _
          have h1 := hll.out
          have h2 := natBytes_length src.size
          rw [List.length_append, List.length_append, size_toList]
          omega
        go_wp2_with fail
        refine (text_any w1.heap.size w1.heap.size _ by_ _ (by omega) hl7.out HB7.out.size HWn.out).mono ?_
        rintro e w8 ⟨rfl, hwr, hb⟩
        have HW8 := Lib.hid hwr; clear hwr
        have HB8 : Hid (Below w1.heap.size w1 w8) := HB7.out.trans hb
        clear hb
        go_wp2
        go_roundw
        case rel =>
          refine ⟨k + 1, by omega, by go_num, ?_, HB8.out⟩
          show Wr _ _ _ _
          rw [Hsnoc.out]
          simpa using HW8.out
        case measure => simp [intOf]; omega
      · obtain rfl : k = n := by omega
        have hfull : Hid (headQ ⟨ow, ep, lo, ls⟩ ++ packsB (ls.take k) = encQB ⟨ow, ep, lo, ls⟩) := by
          show _ = _
          rw [List.take_of_length_le (by rw [Hln.out]; omega)]
          rfl
        have hll : Hid ((encQB ⟨ow, ep, lo, ls⟩).length ≤ 35184372088832) := by
          show _ ≤ _
          rw [← hfull.out]
          have h1 := hlenH.out
          have h2 := packsB_length (ls := ls.take k) (fun s h => Hsize.out s (List.mem_of_mem_take h))
          have h3 : (ls.take k).length ≤ k := by simp; omega
          rw [List.length_append]
          omega
        have hwr := HW.out
        rw [hfull.out] at hwr
        have HWn := Lib.hid hwr; clear hwr HW
        go_wp2_with fail
        refine (bytes_any w1.heap.size w1.heap.size _ _ hll.out HWn.out).mono ?_
        rintro e w7 ⟨v, rfl, hrow, hb, hform⟩
        rcases hform with rfl | ⟨g2, n2, c2, rfl, hg2⟩
        · exfalso
          rcases hrow.2 with ⟨_, h⟩ | ⟨g', cap', cur, h0, _⟩
          · have := natBytes_ne ow.size
            simp [encQB, headQ, textB] at h
            exact this h.1
          · cases h0
        · have hconv := run_bytes_str w7 g2 0 n2 c2 _ hrow.sl.1
          have Hfin : Hid (Below w.heap.size w w7) := (Hb1.out.trans (HB.out.mono (by omega))).trans (hb.mono (by have := HB.out.size; omega))
          clear hrow hb HB HWn
          go_wp2
          go_ret2
          rw [he.out]
          exact ⟨rfl, Hfin.out⟩
  · have he : Hid (encQ ⟨ow, ep, lo, ls⟩ = (⟨#[]⟩, q)) := by show _ = _; simp [encQ, Hq.out, h0]
    have h0' : ((q : Int) != 0) = true := bne_iff_ne.2 (by omega)
    clear h0
    go_wp2
    go_ret2
    rw [he.out]
    exact ⟨rfl, Hb1.out⟩

end Go.Proofs.YtijfdgoeppehlaaGreatDoor
