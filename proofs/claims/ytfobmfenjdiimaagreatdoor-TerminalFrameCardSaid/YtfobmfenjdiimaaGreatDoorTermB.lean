/- terminal: Encode. -/
import Derived.Test.YtfobmfenjdiimaaGreatDoorTermA
import Derived.Test.YtfobmfenjdiimaaGreatDoorPlainN
namespace Go.Proofs.YtfobmfenjdiimaaGreatDoor
open Go.RowKit

def linesB (ls : List ByteArray) : List UInt8 := ls.flatMap textB
def headB (t : TermT) : List UInt8 := natBytes t.epoch.toNat ++ textB t.session ++ natBytes t.typed.length
def encB (t : TermT) : List UInt8 := headB t ++ linesB t.typed ++ textB t.screen
/-- What Encode answers. -/
def encT (t : TermT) : ByteArray × Nat := if checkT t = 0 then (strOf (encB t), 0) else (⟨#[]⟩, checkT t)

theorem checkT_ok {t : TermT} (h : checkT t = 0) : (0 ≤ t.epoch ∧ t.epoch ≤ 1073741824) ∧ validB t.session = true ∧ t.typed.length ≤ 16 ∧ linesE t.typed = 0 ∧ ¬ (t.session.size = 0 ∧ 0 < t.typed.length) ∧ t.screen.size ≤ 2048 := by
  unfold checkT at h
  split at h
  · cases h
  rename_i h1
  split at h
  · cases h
  rename_i h2
  split at h
  · cases h
  rename_i h3
  split at h
  · contradiction
  rename_i h4
  split at h
  · cases h
  rename_i h5
  split at h
  · cases h
  rename_i h6
  refine ⟨?_, by simpa using h2, by omega, by simpa using h4, h5, by omega⟩
  simpa [epochB] using h1
theorem linesE_size {ls : List ByteArray} (h : linesE ls = 0) : ∀ s ∈ ls, lineE s = 0 := by
  induction ls with
  | nil => simp
  | cons s r ih =>
    simp only [linesE] at h
    split at h
    · contradiction
    · rename_i h1
      intro x hx
      rcases List.mem_cons.1 hx with rfl | hx
      · simpa using h1
      · exact ih h x hx
theorem lineE_size {s : ByteArray} (h : lineE s = 0) : s.size ≤ 1024 := by
  unfold lineE at h
  split at h
  · cases h
  · omega
theorem linesB_length {ls : List ByteArray} (h : ∀ s ∈ ls, s.size ≤ 1024) : (linesB ls).length ≤ ls.length * 1034 := by
  induction ls with
  | nil => simp [linesB]
  | cons s r ih =>
    have h1 := ih (fun x hx => h x (List.mem_cons_of_mem _ hx))
    have h2 := textB_length s
    have h3 := h s (by simp)
    simp only [linesB, List.flatMap_cons, List.length_append, List.length_cons] at h1 ⊢
    omega
theorem linesB_snoc (ls : List ByteArray) (k : Nat) (hk : k < ls.length) : linesB (ls.take (k + 1)) = linesB (ls.take k) ++ natBytes (ls.getD k ⟨#[]⟩).size ++ (ls.getD k ⟨#[]⟩).data.toList := by
  rw [List.take_succ_eq_append_getElem hk, List.getD_eq_getElem?_getD, List.getElem?_eq_getElem hk]
  simp only [linesB, List.flatMap_append, List.flatMap_cons, List.flatMap_nil, List.append_nil, textB, Option.getD_some, List.append_assoc]
set_option maxRecDepth 100000 in
set_option maxHeartbeats 4000000 in
theorem encode_any (ep : Int) (se sc : ByteArray) (a : Option Addr) (n c : Nat) (ls : List ByteArray) (w : World) (hs : SSl w a n ls) (hse : se.size ≤ 65536) (hsc : sc.size ≤ 70368744177664) (hn : n ≤ 70368744177664) (hls : ∀ s ∈ ls, s.size ≤ 70368744177664) :
    Calls Tryz.prog 22 #[.agg #[.int .i64 ep, .string se, .slice a n c, .string sc]] w fun r w' => r = .returned (.tuple #[.string (encT ⟨ep, se, ls, sc⟩).1, .int .i64 (encT ⟨ep, se, ls, sc⟩).2]) ∧ Below w.heap.size w w' := by
  have Hs := Lib.hid hs; clear hs
  have Hls := Lib.hid hls; clear hls
  have Hbx : Hid (∀ v t, Below w.heap.size w (w.alloc (.cells v t))) := fun v t => (Below.refl _ _).alloc (Nat.le_refl _) _
  generalize hq : checkT ⟨ep, se, ls, sc⟩ = q at *
  have Hq := Lib.hid hq; clear hq
  go_enter Tryz.func22, Tryz.ntmps22
  go_wp2_with fail
  refine (termCheck_is ep se sc a n c ls q Hq.out _ (Hs.out.later (Hbx.out _ _)) (by omega) hsc hn Hls.out).mono ?_
  rintro e w1 ⟨rfl, hb1⟩
  have hqc : ∀ j, w1.cell? ⟨w.heap.size, j, none⟩ = (#[.int .i64 ep, .string se, .slice a n c, .string sc] : Array Value)[j]? := fun j => ((bcell hb1).1 _ _ (by simp)).trans (cell_of_heap (World.alloc_heap_new w _) j)
  have Hb1 : Hid (Below w.heap.size w w1) := (Hbx.out _ _).trans (hb1.mono (by simp))
  have hsz1 : w.heap.size < w1.heap.size := by have := hb1.size; simp at this; omega
  clear hb1
  by_cases h0 : q = 0
  · obtain ⟨hep, hva, hn16, hl0, _, hsc2⟩ := checkT_ok (Hq.out.trans h0)
    dsimp only at hep hva hn16 hl0 hsc2
    have hsize : ∀ s ∈ ls, s.size ≤ 1024 := fun s h => lineE_size (linesE_size hl0 s h)
    have Hsize := Lib.hid hsize; clear hsize hl0 hva
    subst h0
    have hln := Hs.out.1
    have he : Hid (encT ⟨ep, se, ls, sc⟩ = (strOf (encB ⟨ep, se, ls, sc⟩), 0)) := by show _ = _; simp [encT, Hq.out]
    have Hln := Lib.hid hln; clear hln
    have hn16' : n ≤ 16 := by rw [Hln.out] at hn16; exact hn16
    clear hn16 hn hsc
    go_wp2_with fail
    refine (newWriter_any _).mono ?_
    rintro e w2 ⟨rfl, rfl⟩
    have Hwr := Lib.hid (wr_box (w := w1))
    have hB0 : Below w1.heap.size w1 (w1.alloc (.cells #[.slice none 0 0, .int .i64 0] 149)) := (Below.refl _ _).alloc (Nat.le_refl _) _
    generalize w1.alloc (.cells #[.slice none 0 0, .int .i64 0] 149) = w2 at *
    have hc0 : w2.cell? ⟨w.heap.size, 0, none⟩ = some (.int .i64 ep) := ((bcell hB0).1 _ _ hsz1).trans (hqc 0)
    have HB2 := Lib.hid hB0; clear hB0
    have Hqc := Lib.hid hqc; clear hqc
    go_wp2_with fail
    refine (number_any w1.heap.size w1.heap.size [] ep _ hep.1 (by omega) (by simp) HB2.out.size Hwr.out).mono ?_
    rintro e w3 ⟨rfl, hwr, hb⟩
    have HB3 : Hid (Below w1.heap.size w1 w3) := HB2.out.trans hb
    clear HB2 Hwr hc0 hb
    have Hwr := Lib.hid hwr; clear hwr
    have hc1 : w3.cell? ⟨w.heap.size, 1, none⟩ = some (.string se) := ((bcell HB3.out).1 _ _ hsz1).trans (Hqc.out 1)
    go_wp2_with fail
    refine (text_any w1.heap.size w1.heap.size _ se _ (by omega) (by have := natBytes_length ep.toNat; simp; omega) HB3.out.size Hwr.out).mono ?_
    rintro e w4 ⟨rfl, hwr, hb⟩
    have HB4 : Hid (Below w1.heap.size w1 w4) := HB3.out.trans hb
    clear HB3 Hwr hc1 hb
    have Hwr := Lib.hid hwr; clear hwr
    have hc2 : w4.cell? ⟨w.heap.size, 2, none⟩ = some (.slice a n c) := ((bcell HB4.out).1 _ _ hsz1).trans (Hqc.out 2)
    have hlen4 : ([] ++ natBytes ep.toNat ++ natBytes se.size ++ se.data.toList).length ≤ 65556 := by
      have h1 := natBytes_length ep.toNat
      have h2 := natBytes_length se.size
      simp only [List.nil_append, List.length_append, size_toList]
      omega
    have Hlen4 := Lib.hid hlen4; clear hlen4
    go_wp2_with fail
    refine (number_any w1.heap.size w1.heap.size _ (n : Int) _ (by omega) (by omega) (by have := Hlen4.out; omega) HB4.out.size Hwr.out).mono ?_
    rintro e w5 ⟨rfl, hwr, hb⟩
    have HB5 : Hid (Below w1.heap.size w1 w5) := HB4.out.trans hb
    clear HB4 hc2 hb
    have hhead : Hid ([] ++ natBytes ep.toNat ++ natBytes se.size ++ se.data.toList ++ natBytes (n : Int).toNat = headB ⟨ep, se, ls, sc⟩) := by
      show _ = _
      simp [headB, textB, Hln.out]
    have hlenH : Hid ((headB ⟨ep, se, ls, sc⟩).length ≤ 65566) := by
      show _ ≤ _
      rw [← hhead.out]
      have h1 := Hlen4.out
      have h2 := natBytes_length (n : Int).toNat
      rw [List.length_append]
      omega
    rw [hhead.out] at hwr
    clear Hwr Hlen4
    have Hwr := Lib.hid hwr; clear hwr
    have hc2 : w5.cell? ⟨w.heap.size, 2, none⟩ = some (.slice a n c) := ((bcell HB5.out).1 _ _ hsz1).trans (Hqc.out 2)
    go_wp2
    go_loopw [32] (fun i wr => ∃ k : Nat, k ≤ n ∧ i = .int .i64 k ∧ Hid (Wr w1.heap.size w1.heap.size wr (headB ⟨ep, se, ls, sc⟩ ++ linesB (ls.take k))) ∧ Hid (Below w1.heap.size w1 wr)) (fun i _ => n - (intOf i).toNat)
    case atStart => exact ⟨0, by omega, rfl, by show Wr _ _ _ _; simpa [linesB] using Hwr.out, HB5.out⟩
    case round =>
      obtain ⟨k, hk, rfl, HW, HB⟩ := hrel
      clear HB5 Hwr
      by_cases h4 : k < n
      · obtain ⟨g, off, rfl, hcell⟩ := (Hs.out.later Hb1.out).2 (by omega)
        have hck : wr.cell? ⟨g, off + k, none⟩ = some (.string (ls.getD k ⟨#[]⟩)) := ((bcell HB.out).1 _ _ (World.block_lt_of_cell? w1 ⟨g, off, none⟩ (hcell 0 (by omega)))).trans (hcell k h4)
        have hkl : k < ls.length := by rw [Hln.out]; exact h4
        have hmem : ls.getD k ⟨#[]⟩ ∈ ls := by
          rw [List.getD_eq_getElem?_getD, List.getElem?_eq_getElem hkl]
          exact List.getElem_mem _
        have hszk := Hsize.out _ hmem
        have Hsnoc := Lib.hid (linesB_snoc ls k hkl)
        have hll : Hid ((headB ⟨ep, se, ls, sc⟩ ++ linesB (ls.take k)).length ≤ 1099511627776) := by
          show _ ≤ _
          have h1 := hlenH.out
          have h2 := linesB_length (ls := ls.take k) (fun s h => Hsize.out s (List.mem_of_mem_take h))
          have h3 : (ls.take k).length ≤ k := by simp; omega
          rw [List.length_append]
          omega
        clear hcell hmem
        have Hkl := Lib.hid hkl; clear hkl
        generalize ls.getD k ⟨#[]⟩ = lk at *
        go_wp2_with fail
        refine (text_any w1.heap.size w1.heap.size _ lk _ (by omega) hll.out HB.out.size HW.out).mono ?_
        rintro e w6 ⟨rfl, hwr, hb⟩
        have HWn := Lib.hid hwr; clear hwr
        have Hbn := Lib.hid hb; clear hb
        go_wp2
        go_roundw
        case rel =>
          refine ⟨k + 1, by omega, by go_num, ?_, HB.out.trans Hbn.out⟩
          show Wr _ _ _ _
          rw [Hsnoc.out]
          simpa using HWn.out
        case measure => simp [intOf]; omega
      · obtain rfl : k = n := by omega
        have hfull : Hid (headB ⟨ep, se, ls, sc⟩ ++ linesB (ls.take k) ++ natBytes sc.size ++ sc.data.toList = encB ⟨ep, se, ls, sc⟩) := by
          show _ = _
          rw [List.take_of_length_le (by rw [Hln.out]; omega)]
          simp [encB, textB]
        have hll : Hid ((headB ⟨ep, se, ls, sc⟩ ++ linesB (ls.take k)).length ≤ 100000) := by
          show _ ≤ _
          have h1 := hlenH.out
          have h2 := linesB_length (ls := ls.take k) (fun s h => Hsize.out s (List.mem_of_mem_take h))
          have h3 : (ls.take k).length ≤ k := by simp; omega
          rw [List.length_append]
          omega
        have hc3 : wr.cell? ⟨w.heap.size, 3, none⟩ = some (.string sc) := ((bcell HB.out).1 _ _ hsz1).trans (Hqc.out 3)
        go_wp2_with fail
        refine (text_any w1.heap.size w1.heap.size _ sc _ (by omega) (by have := hll.out; omega) HB.out.size HW.out).mono ?_
        rintro e w6 ⟨rfl, hwr, hb⟩
        have hll2 : Hid ((encB ⟨ep, se, ls, sc⟩).length ≤ 35184372088832) := by
          show _ ≤ _
          rw [← hfull.out]
          have h1 := hll.out
          have h2 := natBytes_length sc.size
          simp only [List.length_append, size_toList] at h1 ⊢
          omega
        rw [hfull.out] at hwr
        have HWn := Lib.hid hwr; clear hwr
        have HB6 : Hid (Below w1.heap.size w1 w6) := HB.out.trans hb
        clear hb hc3 HB HW hll hfull
        go_wp2_with fail
        refine (bytes_any w1.heap.size w1.heap.size _ _ hll2.out HWn.out).mono ?_
        rintro e w7 ⟨v, rfl, hrow, hb, hform⟩
        rcases hform with rfl | ⟨g2, n2, c2, rfl, hg2⟩
        · exfalso
          rcases hrow.2 with ⟨_, h⟩ | ⟨g', cap', cur, h0, _⟩
          · have := natBytes_ne ep.toNat
            simp [encB, headB] at h
            exact this h.1
          · cases h0
        · have hconv := run_bytes_str w7 g2 0 n2 c2 _ hrow.sl.1
          have Hfin : Hid (Below w.heap.size w w7) := (Hb1.out.trans (HB6.out.mono (by omega))).trans (hb.mono (by have := HB6.out.size; omega))
          clear hrow hb HB6 HWn
          go_wp2
          go_ret2
          rw [he.out]
          exact ⟨rfl, Hfin.out⟩
  · have he : Hid (encT ⟨ep, se, ls, sc⟩ = (⟨#[]⟩, q)) := by show _ = _; simp [encT, Hq.out, h0]
    have h0' : ((q : Int) != 0) = true := bne_iff_ne.2 (by omega)
    clear h0
    go_wp2
    go_ret2
    rw [he.out]
    exact ⟨rfl, Hb1.out⟩

end Go.Proofs.YtfobmfenjdiimaaGreatDoor
