/- Law 37: number, checkPacket, check, encode. -/
import Derived.Test.YtemmeopaihmlcaaDoorPorN
namespace Go.Proofs.YtemmeopaihmlcaaDoor
open Go.RowKit
attribute [local go_sem ↓] Go.wp_at_zero Go.wp_at_succ

set_option maxHeartbeats 400000 in
theorem lNumber_any (n : Int) (w : World) : Calls Tryd.prog 93 #[.int .i64 n] w fun r w' => r = .returned (.bool (numB n)) ∧ w = w' := by
  by_cases h1 : 0 ≤ n
  · by_cases h2 : n ≤ 1073741824
    · go_enter Tryd.func93, Tryd.ntmps93
      go_wp2
      go_ret
      exact ⟨by simp [numB, h1, h2], rfl⟩
    · go_enter Tryd.func93, Tryd.ntmps93
      go_wp2
      go_ret
      exact ⟨by simp [numB, h2], rfl⟩
  · go_enter Tryd.func93, Tryd.ntmps93
    go_wp2
    go_ret
    exact ⟨by simp [numB]; omega, rfl⟩
theorem lNumber_is (n : Int) (v : Bool) (h : numB n = v) (w : World) : Calls Tryd.prog 93 #[.int .i64 n] w fun r w' => r = .returned (.bool v) ∧ w = w' := by
  subst h; exact lNumber_any n w

set_option maxRecDepth 100000 in
set_option maxHeartbeats 1000000 in
theorem lPack_any (src by_ : ByteArray) (w : World) (hs : src.size ≤ 9223372036854775807) (hb : by_.size ≤ 9223372036854775807) :
    Calls Tryd.prog 94 #[.agg #[.string src, .string by_]] w fun r w' => r = .returned (.int .i64 (packE ⟨src, by_⟩)) ∧ Below w.heap.size w w' := by
  have Hbx : Hid (∀ v t, Below w.heap.size w (w.alloc (.cells v t))) := fun v t => (Below.refl _ _).alloc (Nat.le_refl _) _
  cases h1 : wordB src with
  | false =>
    have he : Hid (packE ⟨src, by_⟩ = 12) := by show _ = _; simp [packE, h1]
    go_enter Tryd.func94, Tryd.ntmps94
    go_wp2_with fail
    refine (word_is src _ h1 _ hs).mono ?_
    rintro e w1 ⟨rfl, rfl⟩
    go_wp2
    go_ret
    rw [he.out]
    exact ⟨rfl, Hbx.out _ _⟩
  | true =>
    by_cases h2 : 512 < by_.size
    · have he : Hid (packE ⟨src, by_⟩ = 5) := by show _ = _; simp [packE, h1, h2]
      go_enter Tryd.func94, Tryd.ntmps94
      go_wp2_with fail
      refine (word_is src _ h1 _ hs).mono ?_
      rintro e w1 ⟨rfl, rfl⟩
      go_wp2
      go_ret
      rw [he.out]
      exact ⟨rfl, Hbx.out _ _⟩
    · have he : Hid (packE ⟨src, by_⟩ = 0) := by show _ = _; simp [packE, h1, h2]
      go_enter Tryd.func94, Tryd.ntmps94
      go_wp2_with fail
      refine (word_is src _ h1 _ hs).mono ?_
      rintro e w1 ⟨rfl, rfl⟩
      go_wp2
      go_ret
      rw [he.out]
      exact ⟨rfl, Hbx.out _ _⟩
theorem lPack_is (src by_ : ByteArray) (q : Nat) (h : packE ⟨src, by_⟩ = q) (w : World) (hs : src.size ≤ 9223372036854775807) (hb : by_.size ≤ 9223372036854775807) :
    Calls Tryd.prog 94 #[.agg #[.string src, .string by_]] w fun r w' => r = .returned (.int .i64 q) ∧ Below w.heap.size w w' := by
  subst h; exact lPack_any src by_ w hs hb

set_option maxRecDepth 100000 in
set_option maxHeartbeats 2000000 in
theorem lCheck_any (ow : ByteArray) (ep lo : Int) (a : Option Addr) (n c : Nat) (ls : List PackT) (w : World) (hs : PSl w a n ls) (how : ow.size ≤ 70368744177664) (hn : n ≤ 70368744177664) (hls : ∀ s ∈ ls, s.src.size ≤ 70368744177664 ∧ s.bytes.size ≤ 70368744177664) :
    Calls Tryd.prog 55 #[.agg #[.string ow, .int .i64 ep, .int .i64 lo, .slice a n c]] w fun r w' => r = .returned (.int .i64 (checkQ ⟨ow, ep, lo, ls⟩)) ∧ Below w.heap.size w w' := by
  have Hs := Lib.hid hs; clear hs
  have Hls := Lib.hid hls; clear hls
  have Hbx : Hid (∀ v t, Below w.heap.size w (w.alloc (.cells v t))) := fun v t => (Below.refl _ _).alloc (Nat.le_refl _) _
  go_enter Tryd.func55, Tryd.ntmps55
  go_wp2_with fail
  cases h2 : validB ow with
  | false =>
    refine (valid_is ow _ how h2 _).mono ?_
    rintro e w1 ⟨rfl, hb1⟩
    have he : Hid (checkQ ⟨ow, ep, lo, ls⟩ = 12) := by show _ = _; simp [checkQ, h2]
    go_wp2
    go_ret
    rw [he.out]
    exact ⟨rfl, (Hbx.out _ _).trans (hb1.mono (by simp))⟩
  | true =>
    refine (valid_is ow _ how h2 _).mono ?_
    rintro e w1 ⟨rfl, hb1⟩
    have q : ∀ j, w1.cell? ⟨w.heap.size, j, none⟩ = (#[.string ow, .int .i64 ep, .int .i64 lo, .slice a n c] : Array Value)[j]? := fun j => ((bcell hb1).1 _ _ (by simp)).trans (cell_of_heap (World.alloc_heap_new w _) j)
    have q1 := q 1
    have q2 := q 2
    have q3 := q 3
    dsimp at q1 q2 q3
    have Hb1 : Hid (Below w.heap.size w w1) := (Hbx.out _ _).trans (hb1.mono (by simp))
    have HS1 : Hid (PSl w1 a n ls) := Hs.out.later Hb1.out
    have hln := HS1.out.1
    have Hln := Lib.hid hln; clear hln
    clear q hb1 Hs Hbx
    go_wp2_with fail
    cases h1 : numB ep with
    | false =>
      refine (lNumber_is ep _ h1 _).mono ?_
      rintro e w2 ⟨rfl, rfl⟩
      have he : Hid (checkQ ⟨ow, ep, lo, ls⟩ = 2) := by show _ = _; simp [checkQ, h2, h1]
      go_wp2
      go_ret
      rw [he.out]
      exact ⟨rfl, Hb1.out⟩
    | true =>
      refine (lNumber_is ep _ h1 _).mono ?_
      rintro e w2 ⟨rfl, rfl⟩
      go_wp2_with fail
      cases h3 : numB lo with
      | false =>
        refine (lNumber_is lo _ h3 _).mono ?_
        rintro e w2 ⟨rfl, rfl⟩
        have he : Hid (checkQ ⟨ow, ep, lo, ls⟩ = 2) := by show _ = _; simp [checkQ, h2, h3]
        go_wp2
        go_ret
        rw [he.out]
        exact ⟨rfl, Hb1.out⟩
      | true =>
        refine (lNumber_is lo _ h3 _).mono ?_
        rintro e w2 ⟨rfl, rfl⟩
        by_cases h4 : 16 < n
        · have he : Hid (checkQ ⟨ow, ep, lo, ls⟩ = 9) := by show _ = _; simp [checkQ, h1, h2, h3, Hln.out, h4]
          go_wp2
          go_ret
          rw [he.out]
          exact ⟨rfl, Hb1.out⟩
        · have Hck : Hid (checkQ ⟨ow, ep, lo, ls⟩ = packsE ls) := by show _ = _; simp [checkQ, h1, h2, h3, Hln.out, h4]
          have Hq3 := Lib.hid q3
          go_wp2
          go_loopw [3] (fun i wr => ∃ k : Nat, k ≤ n ∧ i = .int .i64 k ∧ Hid (∀ j, j < k → packE (ls.getD j zeroPk) = 0) ∧ Hid (Below w1.heap.size w1 wr)) (fun i _ => n - (intOf i).toNat)
          case atStart => exact ⟨0, by omega, rfl, fun j hj => by omega, Below.refl _ _⟩
          case round =>
            obtain ⟨k, hk, rfl, Hd, HB⟩ := hrel
            have HBe : Hid (Below w.heap.size w wr) := Hb1.out.trans (HB.out.mono Hb1.out.size)
            have z3 : wr.cell? ⟨w.heap.size, 3, none⟩ = some (.slice a n c) := ((bcell HB.out).1 _ _ (World.block_lt_of_cell? w1 _ Hq3.out)).trans Hq3.out
            by_cases h5 : k < n
            · obtain ⟨g, off, rfl, hcell⟩ := HS1.out.2 (by omega)
              have hlt := World.block_lt_of_cell? w1 ⟨g, _, none⟩ (hcell k h5).1
              have hck1 : wr.cell? ⟨g, off + k * 2, none⟩ = some (.string (ls.getD k zeroPk).src) := ((bcell HB.out).1 _ _ hlt).trans (hcell k h5).1
              have hck2 : wr.cell? ⟨g, off + k * 2 + 1, none⟩ = some (.string (ls.getD k zeroPk).bytes) := ((bcell HB.out).1 _ _ hlt).trans (hcell k h5).2
              clear hcell hlt
              have hszk : (ls.getD k zeroPk).src.size ≤ 70368744177664 ∧ (ls.getD k zeroPk).bytes.size ≤ 70368744177664 := by
                rw [List.getD_eq_getElem?_getD, List.getElem?_eq_getElem (by rw [Hln.out]; exact h5)]
                exact Hls.out _ (List.getElem_mem _)
              by_cases h6 : packE (ls.getD k zeroPk) = 0
              · have Hstep : Hid (∀ j, j < k + 1 → packE (ls.getD j zeroPk) = 0) := fun j hj => by
                  by_cases hjk : j = k
                  · subst hjk; exact h6
                  · exact Hd.out j (by omega)
                generalize ls.getD k zeroPk = lk at *
                obtain ⟨src, by_⟩ := lk
                dsimp only at hck1 hck2 hszk
                go_wp2_with fail
                refine (lPack_is src by_ 0 h6 _ (by omega) (by omega)).mono ?_
                rintro e w2 ⟨rfl, hb2⟩
                have HBn : Hid (Below w1.heap.size w1 w2) := HB.out.trans (hb2.mono HB.out.size)
                clear hb2
                go_wp2
                go_roundw
                case rel => exact ⟨k + 1, by omega, by go_num, Hstep.out, HBn.out⟩
                case measure => simp [intOf]; omega
              · have he : Hid (packsE ls = packE (ls.getD k zeroPk)) := packsE_bad (by rw [Hln.out]; exact h5) Hd.out h6
                generalize ls.getD k zeroPk = lk at *
                obtain ⟨src, by_⟩ := lk
                dsimp only at hck1 hck2 hszk
                generalize hq : packE ⟨src, by_⟩ = q at *
                have Hq := Lib.hid hq; clear hq
                have h6' : ((q : Int) != 0) = true := bne_iff_ne.2 (by omega)
                go_wp2_with fail
                refine (lPack_is src by_ q Hq.out _ (by omega) (by omega)).mono ?_
                rintro e w2 ⟨rfl, hb2⟩
                have HBn : Hid (Below w1.heap.size w1 w2) := HB.out.trans (hb2.mono HB.out.size)
                clear hb2
                go_wp2
                go_ret
                rw [Hck.out, he.out]
                exact ⟨rfl, Hb1.out.trans (HBn.out.mono Hb1.out.size)⟩
            · have hall : Hid (packsE ls = 0) := packsE_ok (fun j hj => Hd.out j (by rw [Hln.out] at hj; omega))
              go_wp2
              go_ret
              rw [Hck.out, hall.out]
              exact ⟨rfl, HBe.out⟩
theorem lCheck_is (ow : ByteArray) (ep lo : Int) (a : Option Addr) (n c : Nat) (ls : List PackT) (q : Nat) (hq : checkQ ⟨ow, ep, lo, ls⟩ = q) (w : World) (hs : PSl w a n ls) (how : ow.size ≤ 70368744177664) (hn : n ≤ 70368744177664) (hls : ∀ s ∈ ls, s.src.size ≤ 70368744177664 ∧ s.bytes.size ≤ 70368744177664) :
    Calls Tryd.prog 55 #[.agg #[.string ow, .int .i64 ep, .int .i64 lo, .slice a n c]] w fun r w' => r = .returned (.int .i64 q) ∧ Below w.heap.size w w' := by
  subst hq; exact lCheck_any ow ep lo a n c ls w hs how hn hls

end Go.Proofs.YtemmeopaihmlcaaDoor
