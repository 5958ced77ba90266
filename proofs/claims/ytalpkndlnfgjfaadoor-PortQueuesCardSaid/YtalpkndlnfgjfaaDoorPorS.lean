/- Law 37: number, checkPacket, check, encode. -/
import Derived.Test.YtalpkndlnfgjfaaDoorPorN
namespace Go.Proofs.YtalpkndlnfgjfaaDoor
open Go.RowKit
attribute [local go_sem ↓] Go.wp_at_zero Go.wp_at_succ

set_option maxHeartbeats 400000 in
theorem lNumber_any (n : Int) (w : World) : Calls Tryd.prog 35 #[.int .i64 n] w fun r w' => r = .returned (.bool (numB n)) ∧ w = w' := by
  by_cases h1 : 0 ≤ n
  · by_cases h2 : n ≤ 1073741824
    · go_enter Tryd.func35, Tryd.ntmps35
      go_wp2
      go_ret
      exact ⟨by simp [numB, h1, h2], rfl⟩
    · go_enter Tryd.func35, Tryd.ntmps35
      go_wp2
      go_ret
      exact ⟨by simp [numB, h2], rfl⟩
  · go_enter Tryd.func35, Tryd.ntmps35
    go_wp2
    go_ret
    exact ⟨by simp [numB]; omega, rfl⟩
theorem lNumber_is (n : Int) (v : Bool) (h : numB n = v) (w : World) : Calls Tryd.prog 35 #[.int .i64 n] w fun r w' => r = .returned (.bool v) ∧ w = w' := by
  subst h; exact lNumber_any n w

set_option maxRecDepth 100000 in
set_option maxHeartbeats 1000000 in
theorem lPack_any (src by_ : ByteArray) (w : World) (hs : src.size ≤ 9223372036854775807) (hb : by_.size ≤ 9223372036854775807) :
    Calls Tryd.prog 23 #[.agg #[.string src, .string by_]] w fun r w' => r = .returned (.int .i64 (packE ⟨src, by_⟩)) ∧ Below w.heap.size w w' := by
  have Hbx : Hid (∀ v t, Below w.heap.size w (w.alloc (.cells v t))) := fun v t => (Below.refl _ _).alloc (Nat.le_refl _) _
  cases h1 : wordB src with
  | false =>
    have he : Hid (packE ⟨src, by_⟩ = 12) := by show _ = _; simp [packE, h1]
    go_enter Tryd.func23, Tryd.ntmps23
    go_wp2_with fail
    refine (word_is src _ h1 _ hs).mono ?_
    rintro e w1 ⟨rfl, rfl⟩
    go_wp2
    go_ret
    rw [he.out]
    exact ⟨rfl, Hbx.out _ _⟩
  | true =>
    by_cases h2 : 512 < by_.size
    · have he : Hid (packE ⟨src, by_⟩ = 5) := by show _ = _; simp [packE, h1, h2]
      go_enter Tryd.func23, Tryd.ntmps23
      go_wp2_with fail
      refine (word_is src _ h1 _ hs).mono ?_
      rintro e w1 ⟨rfl, rfl⟩
      go_wp2
      go_ret
      rw [he.out]
      exact ⟨rfl, Hbx.out _ _⟩
    · have he : Hid (packE ⟨src, by_⟩ = 0) := by show _ = _; simp [packE, h1, h2]
      go_enter Tryd.func23, Tryd.ntmps23
      go_wp2_with fail
      refine (word_is src _ h1 _ hs).mono ?_
      rintro e w1 ⟨rfl, rfl⟩
      go_wp2
      go_ret
      rw [he.out]
      exact ⟨rfl, Hbx.out _ _⟩
theorem lPack_is (src by_ : ByteArray) (q : Nat) (h : packE ⟨src, by_⟩ = q) (w : World) (hs : src.size ≤ 9223372036854775807) (hb : by_.size ≤ 9223372036854775807) :
    Calls Tryd.prog 23 #[.agg #[.string src, .string by_]] w fun r w' => r = .returned (.int .i64 q) ∧ Below w.heap.size w w' := by
  subst h; exact lPack_any src by_ w hs hb

set_option maxRecDepth 100000 in
set_option maxHeartbeats 2000000 in
theorem lCheck_any (ow : ByteArray) (ep lo : Int) (a : Option Addr) (n c : Nat) (ls : List PackT) (w : World) (hs : PSl w a n ls) (how : ow.size ≤ 70368744177664) (hn : n ≤ 70368744177664) (hls : ∀ s ∈ ls, s.src.size ≤ 70368744177664 ∧ s.bytes.size ≤ 70368744177664) :
    Calls Tryd.prog 12 #[.agg #[.string ow, .int .i64 ep, .int .i64 lo, .slice a n c]] w fun r w' => r = .returned (.int .i64 (checkQ ⟨ow, ep, lo, ls⟩)) ∧ Below w.heap.size w w' := by
  have Hs := Lib.hid hs; clear hs
  have Hls := Lib.hid hls; clear hls
  have Hbx : Hid (∀ v t, Below w.heap.size w (w.alloc (.cells v t))) := fun v t => (Below.refl _ _).alloc (Nat.le_refl _) _
  go_enter Tryd.func12, Tryd.ntmps12
  go_wp2_with fail
  cases h2 : validB ow with
  | false =>
    refine (valid_is ow _ how h2 _).mono ?_
    rintro e w1 ⟨rfl, hb1⟩
    have he : Hid (checkQ ⟨ow, ep, lo, ls⟩ = 12) := by show _ = _; simp [checkQ, h2]
    go_wp2
    go_ret
    rw [he.out]
    exact ⟨rfl, (Hbx.out _ _).trans (hb1.mono (by simp))⟩
  | true =>
    refine (valid_is ow _ how h2 _).mono ?_
    rintro e w1 ⟨rfl, hb1⟩
    have q : ∀ j, w1.cell? ⟨w.heap.size, j, none⟩ = (#[.string ow, .int .i64 ep, .int .i64 lo, .slice a n c] : Array Value)[j]? := fun j => ((bcell hb1).1 _ _ (by simp)).trans (cell_of_heap (World.alloc_heap_new w _) j)
    have q1 := q 1
    have q2 := q 2
    have q3 := q 3
    dsimp at q1 q2 q3
    have Hb1 : Hid (Below w.heap.size w w1) := (Hbx.out _ _).trans (hb1.mono (by simp))
    have HS1 : Hid (PSl w1 a n ls) := Hs.out.later Hb1.out
    have hln := HS1.out.1
    have Hln := Lib.hid hln; clear hln
    clear q hb1 Hs Hbx
    go_wp2_with fail
    cases h1 : numB ep with
    | false =>
      refine (lNumber_is ep _ h1 _).mono ?_
      rintro e w2 ⟨rfl, rfl⟩
      have he : Hid (checkQ ⟨ow, ep, lo, ls⟩ = 2) := by show _ = _; simp [checkQ, h2, h1]
      go_wp2
      go_ret
      rw [he.out]
      exact ⟨rfl, Hb1.out⟩
    | true =>
      refine (lNumber_is ep _ h1 _).mono ?_
      rintro e w2 ⟨rfl, rfl⟩
      go_wp2_with fail
      cases h3 : numB lo with
      | false =>
        refine (lNumber_is lo _ h3 _).mono ?_
        rintro e w2 ⟨rfl, rfl⟩
        have he : Hid (checkQ ⟨ow, ep, lo, ls⟩ = 2) := by show _ = _; simp [checkQ, h2, h3]
        go_wp2
        go_ret
        rw [he.out]
        exact ⟨rfl, Hb1.out⟩
      | true =>
        refine (lNumber_is lo _ h3 _).mono ?_
        rintro e w2 ⟨rfl, rfl⟩
        by_cases h4 : 16 < n
        · have he : Hid (checkQ ⟨ow, ep, lo, ls⟩ = 9) := by show _ = _; simp [checkQ, h1, h2, h3, Hln.out, h4]
          go_wp2
          go_ret
          rw [he.out]
          exact ⟨rfl, Hb1.out⟩
        · have Hck : Hid (checkQ ⟨ow, ep, lo, ls⟩ = packsE ls) := by show _ = _; simp [checkQ, h1, h2, h3, Hln.out, h4]
          have Hq3 := Lib.hid q3
          go_wp2
          go_loopw [3] (fun i wr => ∃ k : Nat, k ≤ n ∧ i = .int .i64 k ∧ Hid (∀ j, j < k → packE (ls.getD j zeroPk) = 0) ∧ Hid (Below w1.heap.size w1 wr)) (fun i _ => n - (intOf i).toNat)
          case atStart => exact ⟨0, by omega, rfl, fun j hj => by omega, Below.refl _ _⟩
          case round =>
            obtain ⟨k, hk, rfl, Hd, HB⟩ := hrel
            have HBe : Hid (Below w.heap.size w wr) := Hb1.out.trans (HB.out.mono Hb1.out.size)
            have z3 : wr.cell? ⟨w.heap.size, 3, none⟩ = some (.slice a n c) := ((bcell HB.out).1 _ _ (World.block_lt_of_cell? w1 _ Hq3.out)).trans Hq3.out
            by_cases h5 : k < n
            · obtain ⟨g, off, rfl, hcell⟩ := HS1.out.2 (by omega)
              have hlt := World.block_lt_of_cell? w1 ⟨g, _, none⟩ (hcell k h5).1
              have hck1 : wr.cell? ⟨g, off + k * 2, none⟩ = some (.string (ls.getD k zeroPk).src) := ((bcell HB.out).1 _ _ hlt).trans (hcell k h5).1
              have hck2 : wr.cell? ⟨g, off + k * 2 + 1, none⟩ = some (.string (ls.getD k zeroPk).bytes) := ((bcell HB.out).1 _ _ hlt).trans (hcell k h5).2
              clear hcell hlt
              have hszk : (ls.getD k zeroPk).src.size ≤ 70368744177664 ∧ (ls.getD k zeroPk).bytes.size ≤ 70368744177664 := by
                rw [List.getD_eq_getElem?_getD, List.getElem?_eq_getElem (by rw [Hln.out]; exact h5)]
                exact Hls.out _ (List.getElem_mem _)
              by_cases h6 : packE (ls.getD k zeroPk) = 0
              · have Hstep : Hid (∀ j, j < k + 1 → packE (ls.getD j zeroPk) = 0) := fun j hj => by
                  by_cases hjk : j = k
                  · subst hjk; exact h6
                  · exact Hd.out j (by omega)
                generalize ls.getD k zeroPk = lk at *
                obtain ⟨src, by_⟩ := lk
                dsimp only at hck1 hck2 hszk
                go_wp2_with fail
                refine (lPack_is src by_ 0 h6 _ (by omega) (by omega)).mono ?_
                rintro e w2 ⟨rfl, hb2⟩
                have HBn : Hid (Below w1.heap.size w1 w2) := HB.out.trans (hb2.mono HB.out.size)
                clear hb2
                go_wp2
                go_roundw
                case rel => exact ⟨k + 1, by omega, by go_num, Hstep.out, HBn.out⟩
                case measure => simp [intOf]; omega
              · have he : Hid (packsE ls = packE (ls.getD k zeroPk)) := packsE_bad (by rw [Hln.out]; exact h5) Hd.out h6
                generalize ls.getD k zeroPk = lk at *
                obtain ⟨src, by_⟩ := lk
                dsimp only at hck1 hck2 hszk
                generalize hq : packE ⟨src, by_⟩ = q at *
                have Hq := Lib.hid hq; clear hq
                have h6' : ((q : Int) != 0) = true := bne_iff_ne.2 (by omega)
                go_wp2_with fail
                refine (lPack_is src by_ q Hq.out _ (by omega) (by omega)).mono ?_
                rintro e w2 ⟨rfl, hb2⟩
                have HBn : Hid (Below w1.heap.size w1 w2) := HB.out.trans (hb2.mono HB.out.size)
                clear hb2
                go_wp2
                go_ret
                rw [Hck.out, he.out]
                exact ⟨rfl, Hb1.out.trans (HBn.out.mono Hb1.out.size)⟩
            · have hall : Hid (packsE ls = 0) := packsE_ok (fun j hj => Hd.out j (by rw [Hln.out] at hj; omega))
              go_wp2
              go_ret
              rw [Hck.out, hall.out]
              exact ⟨rfl, HBe.out⟩
theorem lCheck_is (ow : ByteArray) (ep lo : Int) (a : Option Addr) (n c : Nat) (ls : List PackT) (q : Nat) (hq : checkQ ⟨ow, ep, lo, ls⟩ = q) (w : World) (hs : PSl w a n ls) (how : ow.size ≤ 70368744177664) (hn : n ≤ 70368744177664) (hls : ∀ s ∈ ls, s.src.size ≤ 70368744177664 ∧ s.bytes.size ≤ 70368744177664) :
    Calls Tryd.prog 12 #[.agg #[.string ow, .int .i64 ep, .int .i64 lo, .slice a n c]] w fun r w' => r = .returned (.int .i64 q) ∧ Below w.heap.size w w' := by
  subst hq; exact lCheck_any ow ep lo a n c ls w hs how hn hls

set_option maxRecDepth 100000 in
set_option maxHeartbeats 4000000 in
theorem lEncode_any (ow : ByteArray) (ep lo : Int) (a : Option Addr) (n c : Nat) (ls : List PackT) (w : World) (hs : PSl w a n ls) (how : ow.size ≤ 64) (hck : checkQ ⟨ow, ep, lo, ls⟩ = 0) :
    Calls Tryd.prog 15 #[.agg #[.string ow, .int .i64 ep, .int .i64 lo, .slice a n c]] w fun r w' => r = .returned (.string (strOf (encQB ⟨ow, ep, lo, ls⟩))) ∧ Below w.heap.size w w' := by
  have Hs := Lib.hid hs; clear hs
  have Hbx : Hid (∀ v t, Below w.heap.size w (w.alloc (.cells v t))) := fun v t => (Below.refl _ _).alloc (Nat.le_refl _) _
  obtain ⟨_, hep, hlo, hn16, hl0⟩ := checkQ_ok hck
  dsimp only at hep hlo hn16 hl0
  have hsize : ∀ s ∈ ls, s.src.size ≤ 32 ∧ s.bytes.size ≤ 512 := fun s h => packE_size (packsE_size hl0 s h)
  have Hsize := Lib.hid hsize; clear hsize hl0
  clear hck
  have hln := Hs.out.1
  have Hln := Lib.hid hln; clear hln
  have hn16' : n ≤ 16 := by rw [Hln.out] at hn16; exact hn16
  clear hn16
  have w1d : w = w := rfl
  go_enter Tryd.func15, Tryd.ntmps15
  go_wp2_with fail
  have hqc : ∀ j, (w.alloc (.cells #[.string ow, .int .i64 ep, .int .i64 lo, .slice a n c] 25)).cell? ⟨w.heap.size, j, none⟩ = (#[.string ow, .int .i64 ep, .int .i64 lo, .slice a n c] : Array Value)[j]? := fun j => cell_of_heap (World.alloc_heap_new w _) j
  have Hb1 := Lib.hid (Hbx.out #[.string ow, .int .i64 ep, .int .i64 lo, .slice a n c] 25)
  have hsz1 : w.heap.size < (w.alloc (.cells #[.string ow, .int .i64 ep, .int .i64 lo, .slice a n c] 25)).heap.size := by simp
  generalize w.alloc (.cells #[.string ow, .int .i64 ep, .int .i64 lo, .slice a n c] 25) = w1 at *
  clear w1d
  refine (newWriter_any _).mono ?_
  rintro e w2 ⟨rfl, rfl⟩
  have Hwr := Lib.hid (wr_box (w := w1))
  have hB0 : Below w1.heap.size w1 (w1.alloc (.cells #[.slice none 0 0, .int .i64 0] 110)) := (Below.refl _ _).alloc (Nat.le_refl _) _
  generalize w1.alloc (.cells #[.slice none 0 0, .int .i64 0] 110) = w2 at *
  have hc0 : w2.cell? ⟨w.heap.size, 0, none⟩ = some (.string ow) := ((bcell hB0).1 _ _ hsz1).trans (hqc 0)
  have HB2 := Lib.hid hB0; clear hB0
  have Hqc := Lib.hid hqc; clear hqc
  go_wp2_with fail
  refine (text_any w1.heap.size w1.heap.size [] ow _ (by omega) (by simp) HB2.out.size Hwr.out).mono ?_
  rintro e w3 ⟨rfl, hwr, hb⟩
  have HB3 : Hid (Below w1.heap.size w1 w3) := HB2.out.trans hb
  clear HB2 Hwr hc0 hb
  have Hwr := Lib.hid hwr; clear hwr
  have hc1 : w3.cell? ⟨w.heap.size, 1, none⟩ = some (.int .i64 ep) := ((bcell HB3.out).1 _ _ hsz1).trans (Hqc.out 1)
  have hl3 : Hid (([] ++ natBytes ow.size ++ ow.data.toList).length ≤ 65546) := by
    show _ ≤ _
    have h2 := natBytes_length ow.size
    simp only [List.nil_append, List.length_append, size_toList]
    omega
  go_wp2_with fail
  refine (number_any w1.heap.size w1.heap.size _ ep _ hep.1 (by omega) (by have := hl3.out; omega) HB3.out.size Hwr.out).mono ?_
  rintro e w4 ⟨rfl, hwr, hb⟩
  have HB4 : Hid (Below w1.heap.size w1 w4) := HB3.out.trans hb
  clear HB3 Hwr hc1 hb
  have Hwr := Lib.hid hwr; clear hwr
  have hc2 : w4.cell? ⟨w.heap.size, 2, none⟩ = some (.int .i64 lo) := ((bcell HB4.out).1 _ _ hsz1).trans (Hqc.out 2)
  have hl4 : Hid (([] ++ natBytes ow.size ++ ow.data.toList ++ natBytes ep.toNat).length ≤ 65556) := by
    show _ ≤ _
    have h1 := hl3.out
    have h2 := natBytes_length ep.toNat
    rw [List.length_append]
    omega
  go_wp2_with fail
  refine (number_any w1.heap.size w1.heap.size _ lo _ hlo.1 (by omega) (by have := hl4.out; omega) HB4.out.size Hwr.out).mono ?_
  rintro e w5 ⟨rfl, hwr, hb⟩
  have HB5 : Hid (Below w1.heap.size w1 w5) := HB4.out.trans hb
  clear HB4 Hwr hc2 hb
  have Hwr := Lib.hid hwr; clear hwr
  have hc3 : w5.cell? ⟨w.heap.size, 3, none⟩ = some (.slice a n c) := ((bcell HB5.out).1 _ _ hsz1).trans (Hqc.out 3)
  have hl5 : Hid (([] ++ natBytes ow.size ++ ow.data.toList ++ natBytes ep.toNat ++ natBytes lo.toNat).length ≤ 65566) := by
    show _ ≤ _
    have h1 := hl4.out
    have h2 := natBytes_length lo.toNat
    rw [List.length_append]
    omega
  go_wp2_with fail
  refine (number_any w1.heap.size w1.heap.size _ (n : Int) _ (by omega) (by omega) (by have := hl5.out; omega) HB5.out.size Hwr.out).mono ?_
  rintro e w6 ⟨rfl, hwr, hb⟩
  have HB6 : Hid (Below w1.heap.size w1 w6) := HB5.out.trans hb
  clear HB5 hc3 hb
  have hhead : Hid ([] ++ natBytes ow.size ++ ow.data.toList ++ natBytes ep.toNat ++ natBytes lo.toNat ++ natBytes (n : Int).toNat = headQ ⟨ow, ep, lo, ls⟩) := by
    show _ = _
    simp [headQ, textB, Hln.out]
  have hlenH : Hid ((headQ ⟨ow, ep, lo, ls⟩).length ≤ 65576) := by
    show _ ≤ _
    rw [← hhead.out]
    have h1 := hl5.out
    have h2 := natBytes_length (n : Int).toNat
    rw [List.length_append]
    omega
  rw [hhead.out] at hwr
  clear Hwr hl3 hl4 hl5
  have Hwr := Lib.hid hwr; clear hwr
  have hc3 : w6.cell? ⟨w.heap.size, 3, none⟩ = some (.slice a n c) := ((bcell HB6.out).1 _ _ hsz1).trans (Hqc.out 3)
  go_wp2
  go_loopw [4] (fun i wr => ∃ k : Nat, k ≤ n ∧ i = .int .i64 k ∧ Hid (Wr w1.heap.size w1.heap.size wr (headQ ⟨ow, ep, lo, ls⟩ ++ packsB (ls.take k))) ∧ Hid (Below w1.heap.size w1 wr)) (fun i _ => n - (intOf i).toNat)
  case atStart => exact ⟨0, by omega, rfl, by show Wr _ _ _ _; simpa [packsB] using Hwr.out, HB6.out⟩
  case round =>
    obtain ⟨k, hk, rfl, HW, HB⟩ := hrel
    clear HB6 Hwr
    have z3 : wr.cell? ⟨w.heap.size, 3, none⟩ = some (.slice a n c) := ((bcell HB.out).1 _ _ hsz1).trans (Hqc.out 3)
    by_cases h4 : k < n
    · obtain ⟨g, off, rfl, hcell⟩ := (Hs.out.later Hb1.out).2 (by omega)
      have hlt := World.block_lt_of_cell? w1 ⟨g, _, none⟩ (hcell k h4).1
      have hck1 : wr.cell? ⟨g, off + k * 2, none⟩ = some (.string (ls.getD k zeroPk).src) := ((bcell HB.out).1 _ _ hlt).trans (hcell k h4).1
      have hck2 : wr.cell? ⟨g, off + k * 2 + 1, none⟩ = some (.string (ls.getD k zeroPk).bytes) := ((bcell HB.out).1 _ _ hlt).trans (hcell k h4).2
      have Hk2 := Lib.hid (hcell k h4).2
      have hkl : k < ls.length := by rw [Hln.out]; exact h4
      have hmem : ls.getD k zeroPk ∈ ls := by
        rw [List.getD_eq_getElem?_getD, List.getElem?_eq_getElem hkl]
        exact List.getElem_mem _
      have hszk := Hsize.out _ hmem
      have Hsnoc := Lib.hid (packsB_snoc ls k hkl)
      have hll : Hid ((headQ ⟨ow, ep, lo, ls⟩ ++ packsB (ls.take k)).length ≤ 1099510000000) := by
        show _ ≤ _
        have h1 := hlenH.out
        have h2 := packsB_length (ls := ls.take k) (fun s h => Hsize.out s (List.mem_of_mem_take h))
        have h3 : (ls.take k).length ≤ k := by simp; omega
        rw [List.length_append]
        omega
      clear hcell hmem
      have Hkl := Lib.hid hkl; clear hkl
      generalize ls.getD k zeroPk = lk at *
      obtain ⟨src, by_⟩ := lk
      dsimp only at *
      go_wp2_with fail
      refine (text_any w1.heap.size w1.heap.size _ src _ (by omega) (Nat.le_trans hll.out (by decide)) HB.out.size HW.out).mono ?_
      rintro e w7 ⟨rfl, hwr, hb⟩
      have HWn := Lib.hid hwr; clear hwr
      have HB7 : Hid (Below w1.heap.size w1 w7) := HB.out.trans hb
      clear hb
      have z3' : w7.cell? ⟨w.heap.size, 3, none⟩ = some (.slice (some ⟨g, off, none⟩) n c) := ((bcell HB7.out).1 _ _ hsz1).trans (Hqc.out 3)
      have hck2' : w7.cell? ⟨g, off + k * 2 + 1, none⟩ = some (.string by_) := ((bcell HB7.out).1 _ _ hlt).trans Hk2.out
      have hl7 : Hid ((headQ ⟨ow, ep, lo, ls⟩ ++ packsB (ls.take k) ++ natBytes src.size ++ src.data.toList).length ≤ 1099511627776) := by
        show _ ≤ _
        have h1 := hll.out
        have h2 := natBytes_length src.size
        rw [List.length_append, List.length_append, size_toList]
        omega
      go_wp2_with fail
      refine (text_any w1.heap.size w1.heap.size _ by_ _ (by omega) hl7.out HB7.out.size HWn.out).mono ?_
      rintro e w8 ⟨rfl, hwr, hb⟩
      have HW8 := Lib.hid hwr; clear hwr
      have HB8 : Hid (Below w1.heap.size w1 w8) := HB7.out.trans hb
      clear hb
      go_wp2
      go_roundw
      case rel =>
        refine ⟨k + 1, by omega, by go_num, ?_, HB8.out⟩
        show Wr _ _ _ _
        rw [Hsnoc.out]
        simpa using HW8.out
      case measure => simp [intOf]; omega
    · obtain rfl : k = n := by omega
      have hfull : Hid (headQ ⟨ow, ep, lo, ls⟩ ++ packsB (ls.take k) = encQB ⟨ow, ep, lo, ls⟩) := by
        show _ = _
        rw [List.take_of_length_le (by rw [Hln.out]; omega)]
        rfl
      have hll : Hid ((encQB ⟨ow, ep, lo, ls⟩).length ≤ 35184372088832) := by
        show _ ≤ _
        rw [← hfull.out]
        have h1 := hlenH.out
        have h2 := packsB_length (ls := ls.take k) (fun s h => Hsize.out s (List.mem_of_mem_take h))
        have h3 : (ls.take k).length ≤ k := by simp; omega
        rw [List.length_append]
        omega
      have hwr := HW.out
      rw [hfull.out] at hwr
      have HWn := Lib.hid hwr; clear hwr HW
      go_wp2_with fail
      refine (bytes_any w1.heap.size w1.heap.size _ _ hll.out HWn.out).mono ?_
      rintro e w7 ⟨v, rfl, hrow, hb, hform⟩
      rcases hform with rfl | ⟨g2, n2, c2, rfl, hg2⟩
      · exfalso
        rcases hrow.2 with ⟨_, h⟩ | ⟨g', cap', cur, h0, _⟩
        · have := natBytes_ne ow.size
          simp [encQB, headQ, textB] at h
          exact this h.1
        · cases h0
      · have hconv := run_bytes_str w7 g2 0 n2 c2 _ hrow.sl.1
        have Hfin : Hid (Below w.heap.size w w7) := (Hb1.out.trans (HB.out.mono (by omega))).trans (hb.mono (by have := HB.out.size; omega))
        clear hrow hb HB HWn
        go_wp2
        go_ret
        exact ⟨rfl, Hfin.out⟩

end Go.Proofs.YtalpkndlnfgjfaaDoor
