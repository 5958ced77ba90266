/- pipe: Check, Encode. pipe: Decode. -/
import Derived.Test.YtemmeopaihmlcaaGreatDoorViewC
import Derived.Test.YtemmeopaihmlcaaGreatDoorCodecH
import Derived.Lib.ConvBytes
namespace Go.Proofs.YtemmeopaihmlcaaGreatDoor
open Go.RowKit
attribute [local go_sem ↓] Go.wp_at_zero Go.wp_at_succ

/-- A pipe as a value. -/
structure PipeT where
  epoch : Int
  readers : Int
  writers : Int
  bytes : ByteArray
  deriving DecidableEq
def pCells (p : PipeT) : Array Value := #[.int .i64 p.epoch, .int .i64 p.readers, .int .i64 p.writers, .string p.bytes]
def pEpochB (n : Int) : Bool := decide (0 ≤ n ∧ n ≤ 1073741824)
def pEndsB (n : Int) : Bool := decide (0 ≤ n ∧ n ≤ 64)
def checkP (p : PipeT) : Nat := if pEpochB p.epoch = false ∨ pEndsB p.readers = false ∨ pEndsB p.writers = false then 2 else if p.readers = 0 ∧ p.writers = 0 then 1 else if 256 < p.bytes.size then 5 else 0
def encPB (p : PipeT) : List UInt8 := natBytes p.epoch.toNat ++ natBytes p.readers.toNat ++ natBytes p.writers.toNat ++ natBytes p.bytes.size ++ p.bytes.data.toList
def encP (p : PipeT) : ByteArray × Nat := if checkP p = 0 then (strOf (encPB p), 0) else (⟨#[]⟩, checkP p)

theorem checkP_ok {p : PipeT} (h : checkP p = 0) : (0 ≤ p.epoch ∧ p.epoch ≤ 1073741824) ∧ (0 ≤ p.readers ∧ p.readers ≤ 64) ∧ (0 ≤ p.writers ∧ p.writers ≤ 64) ∧ ¬ (p.readers = 0 ∧ p.writers = 0) ∧ p.bytes.size ≤ 256 := by
  unfold checkP at h
  split at h
  · cases h
  rename_i h1
  split at h
  · cases h
  rename_i h2
  split at h
  · cases h
  rename_i h3
  simp [pEpochB, pEndsB] at h1
  exact ⟨⟨h1.1.1, h1.1.2⟩, ⟨h1.2.1.1, h1.2.1.2⟩, ⟨h1.2.2.1, h1.2.2.2⟩, h2, by omega⟩

set_option maxHeartbeats 400000 in
theorem pEpoch_any (n : Int) (w : World) : Calls Tryz.prog 155 #[.int .i64 n] w fun r w' => r = .returned (.bool (pEpochB n)) ∧ w = w' := by
  by_cases h1 : 0 ≤ n
  · by_cases h2 : n ≤ 1073741824
    · go_enter Tryz.func155, Tryz.ntmps155
      go_wp2
      go_ret
      exact ⟨by simp [pEpochB, h1, h2], rfl⟩
    · go_enter Tryz.func155, Tryz.ntmps155
      go_wp2
      go_ret
      exact ⟨by simp [pEpochB, h2], rfl⟩
  · go_enter Tryz.func155, Tryz.ntmps155
    go_wp2
    go_ret
    exact ⟨by simp [pEpochB]; omega, rfl⟩
theorem pEpoch_is (n : Int) (v : Bool) (h : pEpochB n = v) (w : World) : Calls Tryz.prog 155 #[.int .i64 n] w fun r w' => r = .returned (.bool v) ∧ w = w' := by
  subst h; exact pEpoch_any n w
set_option maxHeartbeats 400000 in
theorem pEnds_any (n : Int) (w : World) : Calls Tryz.prog 202 #[.int .i64 n] w fun r w' => r = .returned (.bool (pEndsB n)) ∧ w = w' := by
  by_cases h1 : 0 ≤ n
  · by_cases h2 : n ≤ 64
    · go_enter Tryz.func202, Tryz.ntmps202
      go_wp2
      go_ret
      exact ⟨by simp [pEndsB, h1, h2], rfl⟩
    · go_enter Tryz.func202, Tryz.ntmps202
      go_wp2
      go_ret
      exact ⟨by simp [pEndsB, h2], rfl⟩
  · go_enter Tryz.func202, Tryz.ntmps202
    go_wp2
    go_ret
    exact ⟨by simp [pEndsB]; omega, rfl⟩
theorem pEnds_is (n : Int) (v : Bool) (h : pEndsB n = v) (w : World) : Calls Tryz.prog 202 #[.int .i64 n] w fun r w' => r = .returned (.bool v) ∧ w = w' := by
  subst h; exact pEnds_any n w

set_option maxRecDepth 100000 in
set_option maxHeartbeats 2000000 in
theorem pCheck_any (ep re wr : Int) (by_ : ByteArray) (w : World) :
    Calls Tryz.prog 157 #[.agg #[.int .i64 ep, .int .i64 re, .int .i64 wr, .string by_]] w fun r w' => r = .returned (.int .i64 (checkP ⟨ep, re, wr, by_⟩)) ∧ Below w.heap.size w w' := by
  have Hbx : Hid (∀ v t, Below w.heap.size w (w.alloc (.cells v t))) := fun v t => (Below.refl _ _).alloc (Nat.le_refl _) _
  cases h1 : pEpochB ep with
  | false =>
    have he : Hid (checkP ⟨ep, re, wr, by_⟩ = 2) := by show _ = _; simp [checkP, h1]
    go_enter Tryz.func157, Tryz.ntmps157
    go_wp2_with fail
    refine (pEpoch_is ep _ h1 _).mono ?_
    rintro e w1 ⟨rfl, rfl⟩
    go_wp2
    go_ret
    rw [he.out]
    exact ⟨rfl, Hbx.out _ _⟩
  | true =>
    cases h2 : pEndsB re with
    | false =>
      have he : Hid (checkP ⟨ep, re, wr, by_⟩ = 2) := by show _ = _; simp [checkP, h2]
      go_enter Tryz.func157, Tryz.ntmps157
      go_wp2_with fail
      refine (pEpoch_is ep _ h1 _).mono ?_
      rintro e w1 ⟨rfl, rfl⟩
      go_wp2_with fail
      refine (pEnds_is re _ h2 _).mono ?_
      rintro e w1 ⟨rfl, rfl⟩
      go_wp2
      go_ret
      rw [he.out]
      exact ⟨rfl, Hbx.out _ _⟩
    | true =>
      cases h3 : pEndsB wr with
      | false =>
        have he : Hid (checkP ⟨ep, re, wr, by_⟩ = 2) := by show _ = _; simp [checkP, h3]
        go_enter Tryz.func157, Tryz.ntmps157
        go_wp2_with fail
        refine (pEpoch_is ep _ h1 _).mono ?_
        rintro e w1 ⟨rfl, rfl⟩
        go_wp2_with fail
        refine (pEnds_is re _ h2 _).mono ?_
        rintro e w1 ⟨rfl, rfl⟩
        go_wp2_with fail
        refine (pEnds_is wr _ h3 _).mono ?_
        rintro e w1 ⟨rfl, rfl⟩
        go_wp2
        go_ret
        rw [he.out]
        exact ⟨rfl, Hbx.out _ _⟩
      | true =>
        by_cases h4 : re = 0 ∧ wr = 0
        · have he : Hid (checkP ⟨ep, re, wr, by_⟩ = 1) := by show _ = _; simp [checkP, h1, h4.1, h4.2]; decide
          obtain ⟨rfl, rfl⟩ := h4
          go_enter Tryz.func157, Tryz.ntmps157
          go_wp2_with fail
          refine (pEpoch_is ep _ h1 _).mono ?_
          rintro e w1 ⟨rfl, rfl⟩
          go_wp2_with fail
          refine (pEnds_is 0 _ h2 _).mono ?_
          rintro e w1 ⟨rfl, rfl⟩
          go_wp2_with fail
          refine (pEnds_is 0 _ h3 _).mono ?_
          rintro e w1 ⟨rfl, rfl⟩
          go_wp2
          go_ret
          rw [he.out]
          exact ⟨rfl, Hbx.out _ _⟩
        · have hways : ((re == 0) = false) ∨ ((re == 0) = true ∧ (wr == 0) = false) := by
            by_cases h : re = 0
            · exact .inr ⟨by simp [h], by simp; intro h'; exact h4 ⟨h, h'⟩⟩
            · exact .inl (by simp [h])
          by_cases h5 : 256 < by_.size
          · have he : Hid (checkP ⟨ep, re, wr, by_⟩ = 5) := by show _ = _; simp [checkP, h1, h2, h3, h4, h5]
            clear h4
            rcases hways with h4 | ⟨h4, h6⟩
            all_goals
              go_enter Tryz.func157, Tryz.ntmps157
              go_wp2_with fail
              refine (pEpoch_is ep _ h1 _).mono ?_
              rintro e w1 ⟨rfl, rfl⟩
              go_wp2_with fail
              refine (pEnds_is re _ h2 _).mono ?_
              rintro e w1 ⟨rfl, rfl⟩
              go_wp2_with fail
              refine (pEnds_is wr _ h3 _).mono ?_
              rintro e w1 ⟨rfl, rfl⟩
              go_wp2
              go_ret
              rw [he.out]
              exact ⟨rfl, Hbx.out _ _⟩
          · have he : Hid (checkP ⟨ep, re, wr, by_⟩ = 0) := by show _ = _; simp [checkP, h1, h2, h3, h4, h5]
            clear h4
            rcases hways with h4 | ⟨h4, h6⟩
            all_goals
              go_enter Tryz.func157, Tryz.ntmps157
              go_wp2_with fail
              refine (pEpoch_is ep _ h1 _).mono ?_
              rintro e w1 ⟨rfl, rfl⟩
              go_wp2_with fail
              refine (pEnds_is re _ h2 _).mono ?_
              rintro e w1 ⟨rfl, rfl⟩
              go_wp2_with fail
              refine (pEnds_is wr _ h3 _).mono ?_
              rintro e w1 ⟨rfl, rfl⟩
              go_wp2
              go_ret
              rw [he.out]
              exact ⟨rfl, Hbx.out _ _⟩
theorem pCheck_is (ep re wr : Int) (by_ : ByteArray) (q : Nat) (h : checkP ⟨ep, re, wr, by_⟩ = q) (w : World) :
    Calls Tryz.prog 157 #[.agg #[.int .i64 ep, .int .i64 re, .int .i64 wr, .string by_]] w fun r w' => r = .returned (.int .i64 q) ∧ Below w.heap.size w w' := by
  subst h; exact pCheck_any ep re wr by_ w

theorem pNat_ne (n : Nat) : natBytes n ≠ [] := by
  unfold natBytes
  simp only [nat7]
  split <;> simp
theorem pWr_box {w : World} : Wr w.heap.size w.heap.size (w.alloc (.cells #[.slice none 0 0, .int .i64 0] 269)) [] :=
  ⟨Nat.le_refl _, .slice none 0 0, heap_alloc_new w _, World.ownsRow_nil _ _ _ _, fun g hg => by cases hg⟩

set_option maxRecDepth 100000 in
set_option maxHeartbeats 4000000 in
theorem pEncode_any (ep re wr : Int) (by_ : ByteArray) (w : World) :
    Calls Tryz.prog 84 #[.agg #[.int .i64 ep, .int .i64 re, .int .i64 wr, .string by_]] w fun r w' => r = .returned (.tuple #[.string (encP ⟨ep, re, wr, by_⟩).1, .int .i64 (encP ⟨ep, re, wr, by_⟩).2]) ∧ Below w.heap.size w w' := by
  have Hbx : Hid (∀ v t, Below w.heap.size w (w.alloc (.cells v t))) := fun v t => (Below.refl _ _).alloc (Nat.le_refl _) _
  generalize hq : checkP ⟨ep, re, wr, by_⟩ = q at *
  have Hq := Lib.hid hq; clear hq
  go_enter Tryz.func84, Tryz.ntmps84
  go_wp2_with fail
  refine (pCheck_is ep re wr by_ q Hq.out _).mono ?_
  rintro e w1 ⟨rfl, hb1⟩
  have hqc : ∀ j, w1.cell? ⟨w.heap.size, j, none⟩ = (#[.int .i64 ep, .int .i64 re, .int .i64 wr, .string by_] : Array Value)[j]? := fun j => ((bcell hb1).1 _ _ (by simp)).trans (cell_of_heap (World.alloc_heap_new w _) j)
  have Hb1 : Hid (Below w.heap.size w w1) := (Hbx.out _ _).trans (hb1.mono (by simp))
  have hsz1 : w.heap.size < w1.heap.size := by have := hb1.size; simp at this; omega
  clear hb1
  by_cases h0 : q = 0
  · obtain ⟨hep, hre, hwr, _, hby⟩ := checkP_ok (Hq.out.trans h0)
    dsimp only at hep hre hwr hby
    subst h0
    have he : Hid (encP ⟨ep, re, wr, by_⟩ = (strOf (encPB ⟨ep, re, wr, by_⟩), 0)) := by show _ = _; simp [encP, Hq.out]
    have hl1 := natBytes_length ep.toNat
    have hl2 := natBytes_length re.toNat
    have hl3 := natBytes_length wr.toNat
    have hl4 := natBytes_length by_.size
    have Hl : Hid ((natBytes ep.toNat).length ≤ 10 ∧ (natBytes re.toNat).length ≤ 10 ∧ (natBytes wr.toNat).length ≤ 10 ∧ (natBytes by_.size).length ≤ 10) := ⟨hl1, hl2, hl3, hl4⟩
    clear hl1 hl2 hl3 hl4
    go_wp2_with fail
    refine (newWriter_any _).mono ?_
    rintro e w2 ⟨rfl, rfl⟩
    have Hwr := Lib.hid (pWr_box (w := w1))
    have hB0 : Below w1.heap.size w1 (w1.alloc (.cells #[.slice none 0 0, .int .i64 0] 269)) := (Below.refl _ _).alloc (Nat.le_refl _) _
    generalize w1.alloc (.cells #[.slice none 0 0, .int .i64 0] 269) = w2 at *
    have hc0 : w2.cell? ⟨w.heap.size, 0, none⟩ = some (.int .i64 ep) := ((bcell hB0).1 _ _ hsz1).trans (hqc 0)
    have HB2 := Lib.hid hB0; clear hB0
    have Hqc := Lib.hid hqc; clear hqc
    go_wp2_with fail
    refine (number_any w1.heap.size w1.heap.size [] ep _ hep.1 (by omega) (by simp) HB2.out.size Hwr.out).mono ?_
    rintro e w3 ⟨rfl, hwr3, hb⟩
    have HB3 : Hid (Below w1.heap.size w1 w3) := HB2.out.trans hb
    clear HB2 Hwr hc0 hb
    have Hwr := Lib.hid hwr3; clear hwr3
    have hc1 : w3.cell? ⟨w.heap.size, 1, none⟩ = some (.int .i64 re) := ((bcell HB3.out).1 _ _ hsz1).trans (Hqc.out 1)
    go_wp2_with fail
    refine (number_any w1.heap.size w1.heap.size _ re _ hre.1 (by omega) (by have := Hl.out; simp; omega) HB3.out.size Hwr.out).mono ?_
    rintro e w4 ⟨rfl, hwr3, hb⟩
    have HB4 : Hid (Below w1.heap.size w1 w4) := HB3.out.trans hb
    clear HB3 Hwr hc1 hb
    have Hwr := Lib.hid hwr3; clear hwr3
    have hc2 : w4.cell? ⟨w.heap.size, 2, none⟩ = some (.int .i64 wr) := ((bcell HB4.out).1 _ _ hsz1).trans (Hqc.out 2)
    go_wp2_with fail
    refine (number_any w1.heap.size w1.heap.size _ wr _ hwr.1 (by omega) (by have := Hl.out; simp; omega) HB4.out.size Hwr.out).mono ?_
    rintro e w5 ⟨rfl, hwr3, hb⟩
    have HB5 : Hid (Below w1.heap.size w1 w5) := HB4.out.trans hb
    clear HB4 Hwr hc2 hb
    have Hwr := Lib.hid hwr3; clear hwr3
    have hc3 : w5.cell? ⟨w.heap.size, 3, none⟩ = some (.string by_) := ((bcell HB5.out).1 _ _ hsz1).trans (Hqc.out 3)
    go_wp2_with fail
    refine (text_any w1.heap.size w1.heap.size _ by_ _ (by omega) (by have := Hl.out; simp; omega) HB5.out.size Hwr.out).mono ?_
    rintro e w6 ⟨rfl, hwr3, hb⟩
    have HB6 : Hid (Below w1.heap.size w1 w6) := HB5.out.trans hb
    clear HB5 Hwr hc3 hb
    have hfull : [] ++ natBytes ep.toNat ++ natBytes re.toNat ++ natBytes wr.toNat ++ natBytes by_.size ++ by_.data.toList = encPB ⟨ep, re, wr, by_⟩ := by simp [encPB]
    rw [hfull] at hwr3
    have hll2 : Hid ((encPB ⟨ep, re, wr, by_⟩).length ≤ 35184372088832) := by
      show _ ≤ _
      have := Hl.out
      simp only [encPB, List.length_append, size_toList]
      omega
    clear hfull
    have HWn := Lib.hid hwr3; clear hwr3
    go_wp2_with fail
    refine (bytes_any w1.heap.size w1.heap.size _ _ hll2.out HWn.out).mono ?_
    rintro e w7 ⟨v, rfl, hrow, hb, hform⟩
    rcases hform with rfl | ⟨g2, n2, c2, rfl, hg2⟩
    · exfalso
      rcases hrow.2 with ⟨_, h⟩ | ⟨g', cap', cur, h0, _⟩
      · have := pNat_ne ep.toNat
        simp [encPB] at h
        exact this h.1
      · cases h0
    · have hconv := run_bytes_str w7 g2 0 n2 c2 _ hrow.sl.1
      have Hfin : Hid (Below w.heap.size w w7) := (Hb1.out.trans (HB6.out.mono (by omega))).trans (hb.mono (by have := HB6.out.size; omega))
      clear hrow hb HB6 HWn
      go_wp2
      go_ret2
      rw [he.out]
      exact ⟨rfl, Hfin.out⟩
  · have he : Hid (encP ⟨ep, re, wr, by_⟩ = (⟨#[]⟩, q)) := by show _ = _; simp [encP, Hq.out, h0]
    have h0' : ((q : Int) != 0) = true := bne_iff_ne.2 (by omega)
    clear h0
    go_wp2
    go_ret2
    rw [he.out]
    exact ⟨rfl, Hb1.out⟩

end Go.Proofs.YtemmeopaihmlcaaGreatDoor

namespace Go.Proofs.YtemmeopaihmlcaaGreatDoor
open Go.RowKit
attribute [local go_sem ↓] Go.wp_at_zero Go.wp_at_succ

def pr1 (bs : List UInt8) := rdNum 1073741824 ⟨bs, 0⟩
def pr2 (bs : List UInt8) := rdNum 64 (pr1 bs).2
def pr3 (bs : List UInt8) := rdNum 64 (pr2 bs).2
def pr4 (bs : List UInt8) := rdText 256 (pr3 bs).2
def decPP (bs : List UInt8) : PipeT := ⟨(pr1 bs).1, (pr2 bs).1, (pr3 bs).1, strOf (pr4 bs).1⟩
def zeroP : PipeT := ⟨0, 0, 0, ⟨#[]⟩⟩
/-- What Decode answers. -/
def decP_ (s : ByteArray) : PipeT × Nat := if rdClose (pr4 s.data.toList).2 = 0 ∧ checkP (decPP s.data.toList) = 0 then (decPP s.data.toList, 0) else (zeroP, 3)

theorem pRd_grown {S : Nat → Prop} {b : Nat} {w w' : World} {s : RdS} {row : Option Nat} (h : Rd S b w s) (hb : w.grownBy w' row) (hr : ∀ k, row = some k → ¬ S k) : Rd S b w' s := by
  obtain ⟨hBb, g, off, n, c, p, hh, hsl, hnc, hBg, hgb, hlen⟩ := h
  have hg : n = 0 ∨ g < w.heap.size := by
    rcases Nat.eq_zero_or_pos n with h0 | h0
    · exact .inl h0
    · exact .inr (World.block_lt_of_cell? w _ (hsl.2 0 h0))
  refine ⟨hBb, g, off, n, c, p, (hb.block b (lt_of_heap hh) (fun e => hr b e.symm hBb)).trans hh, ?_, hnc, hBg, hgb, hlen⟩
  rcases hg with rfl | hg
  · exact ⟨hsl.1, fun j hj => by omega⟩
  · exact hsl.kept (hb.block g hg (fun e => hr g e.symm hBg))
theorem pBelow_row {B : Nat} {w w1 w2 : World} {row : Option Nat} (h : Below B w w1) (hg : w1.grownBy w2 row) (hB : B ≤ w.heap.size) (hr : ∀ k, row = some k → B ≤ k) : Below B w w2 :=
  ⟨hg.os.trans h.os, hg.tape.trans h.tape, hg.output.trans h.output, Nat.le_trans h.size hg.size, fun k hk => (hg.block k (Nat.lt_of_lt_of_le hk (Nat.le_trans hB h.size)) (fun e => by have := hr k e.symm; omega)).trans (h.block k hk)⟩
def SrP (L T k : Nat) : Prop := L ≤ k ∧ k < T
/-- In the midst of Decode. -/
structure PDec (wa : World) (L T b : Nat) (wr : World) (p : PipeT) (s : RdS) : Prop where
  heap : wr.heap[T]? = some (.cells (pCells p) 66 (0, 0))
  rd : Rd (SrP L T) b wr s
  below : Below L wa wr
  low : L ≤ T
  wlow : L ≤ wa.heap.size
theorem PDec.read {wa : World} {L T b : Nat} {wr w1 : World} {p : PipeT} {s s' : RdS} (h : PDec wa L T b wr p s) (hr : Rd (SrP L T) b w1 s') (hg : wr.grownBy w1 (some b)) : PDec wa L T b w1 p s' where
  heap := (hg.block T (lt_of_heap h.heap) (fun e => by cases e; exact absurd hr.1.2 (Nat.lt_irrefl _))).trans h.heap
  rd := hr
  below := pBelow_row h.below hg h.wlow (fun k hk => by cases hk; exact hr.1.1)
  low := h.low
  wlow := h.wlow
theorem PDec.store {wa : World} {L T b : Nat} {wr : World} {p : PipeT} {s : RdS} (h : PDec wa L T b wr p s) (i : Nat) (v : Value) (p' : PipeT) (he : (pCells p).setIfInBounds i v = pCells p') : PDec wa L T b (wr.setCell ⟨T, i, none⟩ v) p' s where
  heap := by rw [heap_setCell_same h.heap, he]
  rd := pRd_grown h.rd (grown_setCell _ _ _ _) (fun k hk e => by cases hk; exact absurd e.2 (Nat.lt_irrefl _))
  below := h.below.setCell h.low _
  low := h.low
  wlow := h.wlow
theorem PDec.cell {wa : World} {L T b : Nat} {wr : World} {p : PipeT} {s : RdS} (h : PDec wa L T b wr p s) :
    (wr.cell? ⟨T, 0, none⟩ = some (.int .i64 p.epoch) ∧ wr.cell? ⟨T, 1, none⟩ = some (.int .i64 p.readers) ∧ wr.cell? ⟨T, 2, none⟩ = some (.int .i64 p.writers) ∧ wr.cell? ⟨T, 3, none⟩ = some (.string p.bytes)) ∧ ∀ i, wr.frozen? ⟨T, i, none⟩ = false :=
  ⟨⟨cell_of_heap h.heap 0, cell_of_heap h.heap 1, cell_of_heap h.heap 2, cell_of_heap h.heap 3⟩, fun i => frozen_of_heap h.heap i⟩
theorem pBytes_below (w : World) (e : TypeId) (s : ByteArray) : Below w.heap.size w (Lib.bytesWorld w e s) :=
  ⟨rfl, rfl, rfl, by rw [Lib.bytesWorld_size]; omega, fun k hk => Lib.bytesWorld_at_old w e s k hk⟩
theorem pGrown_set4 (w : World) (R : Nat) (a b c d : Value) : w.grownBy ((((w.setCell ⟨R, 0, none⟩ a).setCell ⟨R, 1, none⟩ b).setCell ⟨R, 2, none⟩ c).setCell ⟨R, 3, none⟩ d) (some R) :=
  grown_trans (grown_trans (grown_trans (grown_setCell _ _ _ _) (grown_setCell _ _ _ _)) (grown_setCell _ _ _ _)) (grown_setCell _ _ _ _)

def pipeV (p : PipeT) : Value := .agg #[.int .i64 p.epoch, .int .i64 p.readers, .int .i64 p.writers, .string p.bytes]
/-- What Decode leaves. -/
def PipePost (w : World) (p : PipeT × Nat) (r : Ending) (w' : World) : Prop := r = .returned (.tuple #[pipeV p.1, .int .i64 p.2]) ∧ Below w.heap.size w w'

set_option maxRecDepth 100000 in
set_option maxHeartbeats 4000000 in
theorem pDecode_any (s : ByteArray) (w : World) (hs2 : s.size ≤ 35184372088832) : Calls Tryz.prog 82 #[.string s] w (PipePost w (decP_ s)) := by
  have hconv := Lib.run_convert_string_bytes (P := Tryz.prog) (w.alloc (.cells #[.int .i64 0, .int .i64 0, .int .i64 0, .string ⟨#[]⟩] 66)) 9 106 5 s Tryz.underlying9 Tryz.underlying106 Tryz.underlying5
  have hR : (w.alloc (.cells #[.int .i64 0, .int .i64 0, .int .i64 0, .string ⟨#[]⟩] 66)).heap[w.heap.size]? = some (.cells #[.int .i64 0, .int .i64 0, .int .i64 0, .string ⟨#[]⟩] 66 (0, 0)) := World.alloc_heap_new w _
  have hbw := pBytes_below (w.alloc (.cells #[.int .i64 0, .int .i64 0, .int .i64 0, .string ⟨#[]⟩] 66)) 5 s
  have hsrc : BSrc (Lib.bytesWorld (w.alloc (.cells #[.int .i64 0, .int .i64 0, .int .i64 0, .string ⟨#[]⟩] 66)) 5 s) (.slice (some ⟨w.heap.size + 1, 0, none⟩) s.size (grownCap (w.alloc (.cells #[.int .i64 0, .int .i64 0, .int .i64 0, .string ⟨#[]⟩] 66)) s.size 0 5)) s.data.toList := by
    refine .inr ⟨_, _, _, rfl, (size_toList s).symm, fun j u hu => ?_⟩
    have hj : j < s.size := by
      rw [← size_toList]
      rcases Nat.lt_or_ge j s.data.toList.length with h | h
      · exact h
      · rw [List.getElem?_eq_none (by simpa using h)] at hu; cases hu
    have hadd : (⟨w.heap.size + 1, 0, none⟩ : Addr).add j = ⟨w.heap.size + 1, j, none⟩ := by unfold Addr.add; split <;> simp_all
    rw [hadd]
    have := Lib.bytesWorld_cell (w.alloc (.cells #[.int .i64 0, .int .i64 0, .int .i64 0, .string ⟨#[]⟩] 66)) 5 s j hj
    rw [World.size_alloc] at this
    rw [this, ← hu]
    have hj' : j < s.data.toList.length := by rw [size_toList]; exact hj
    simp only [List.getElem?_map, List.getElem?_eq_getElem hj', Option.map_some, byteV, List.getD_eq_getElem?_getD, Option.getD_some]
  rw [World.size_alloc] at hconv
  have hRb := (hbw.block w.heap.size (by simp)).trans hR
  have Hwb : Hid (Below w.heap.size w (Lib.bytesWorld (w.alloc (.cells #[.int .i64 0, .int .i64 0, .int .i64 0, .string ⟨#[]⟩] 66)) 5 s)) := ((Below.refl _ _).alloc (Nat.le_refl _) _).trans (hbw.mono (by simp))
  have hwsz : w.heap.size < (Lib.bytesWorld (w.alloc (.cells #[.int .i64 0, .int .i64 0, .int .i64 0, .string ⟨#[]⟩] 66)) 5 s).heap.size := by rw [Lib.bytesWorld_size]; simp; omega
  have Hsrc := Lib.hid hsrc; clear hsrc hbw hR
  have HRb := Lib.hid hRb; clear hRb
  have Hlen : Hid (s.data.toList.length ≤ 35184372088832) := by show _ ≤ _; rw [size_toList]; exact hs2
  clear hs2
  go_enter Tryz.func82, Tryz.ntmps82
  go_wp2_with fail
  generalize Lib.bytesWorld (w.alloc (.cells #[.int .i64 0, .int .i64 0, .int .i64 0, .string ⟨#[]⟩] 66)) 5 s = wb at *
  refine (newReader_any _ s.data.toList _ Hlen.out Hsrc.out (by simp)).mono ?_
  rintro e w1 ⟨b, rfl, hrd, hb1⟩
  clear hconv Hsrc
  have D0 : Hid (PDec wb wb.heap.size w1.heap.size b (w1.alloc (.cells #[.int .i64 0, .int .i64 0, .int .i64 0, .string ⟨#[]⟩] 66)) ⟨0, 0, 0, ⟨#[]⟩⟩ ⟨s.data.toList, 0⟩) :=
    ⟨heap_alloc_new w1 _, Rd.later hrd ((Below.refl _ _).alloc (Nat.le_refl _) _), hb1.alloc hb1.size _, hb1.size, Nat.le_refl _⟩
  clear hrd hb1
  generalize hbs : s.data.toList = bs at *
  have Hbs := Lib.hid hbs; clear hbs
  go_wp2_with fail
  refine (rNumber_any _ b 1073741824 _ _ D0.out.rd).mono ?_
  rintro e w2 ⟨rfl, hr, hg⟩
  have D1 := Lib.hid (D0.out.read hr hg); clear hr hg D0
  obtain ⟨⟨c0, -, -, -⟩, hf⟩ := D1.out.cell
  have f0 := hf 0
  clear hf
  have e1 : rdNum 1073741824 ⟨bs, 0⟩ = pr1 bs := rfl
  rw [e1] at D1
  rw [e1]
  clear e1
  have D1' := Lib.hid (D1.out.store 0 (.int .i64 (pr1 bs).1) ⟨(pr1 bs).1, 0, 0, ⟨#[]⟩⟩ rfl)
  clear D1
  dsimp only at *
  go_wp2_with fail
  refine (rNumber_any _ b 64 _ _ D1'.out.rd).mono ?_
  rintro e w3 ⟨rfl, hr, hg⟩
  have D2 := Lib.hid (D1'.out.read hr hg); clear hr hg D1' c0 f0
  obtain ⟨⟨-, c1, -, -⟩, hf⟩ := D2.out.cell
  have f1 := hf 1
  clear hf
  have e2 : rdNum 64 (pr1 bs).2 = pr2 bs := rfl
  rw [e2] at D2
  rw [e2]
  clear e2
  have D2' := Lib.hid (D2.out.store 1 (.int .i64 (pr2 bs).1) ⟨(pr1 bs).1, (pr2 bs).1, 0, ⟨#[]⟩⟩ rfl)
  clear D2
  dsimp only at *
  go_wp2_with fail
  refine (rNumber_any _ b 64 _ _ D2'.out.rd).mono ?_
  rintro e w4 ⟨rfl, hr, hg⟩
  have D3 := Lib.hid (D2'.out.read hr hg); clear hr hg D2' c1 f1
  obtain ⟨⟨-, -, c2, -⟩, hf⟩ := D3.out.cell
  have f2 := hf 2
  clear hf
  have e3 : rdNum 64 (pr2 bs).2 = pr3 bs := rfl
  rw [e3] at D3
  rw [e3]
  clear e3
  have D3' := Lib.hid (D3.out.store 2 (.int .i64 (pr3 bs).1) ⟨(pr1 bs).1, (pr2 bs).1, (pr3 bs).1, ⟨#[]⟩⟩ rfl)
  clear D3
  dsimp only at *
  go_wp2_with fail
  refine (rText_any _ b 256 _ _ D3'.out.rd).mono ?_
  rintro e w5 ⟨rfl, hr, hg⟩
  have D4 := Lib.hid (D3'.out.read hr hg); clear hr hg D3' c2 f2
  obtain ⟨⟨-, -, -, c3⟩, hf⟩ := D4.out.cell
  have f3 := hf 3
  clear hf
  have e4 : rdText 256 (pr3 bs).2 = pr4 bs := rfl
  rw [e4] at D4
  rw [e4]
  clear e4
  have D6 := Lib.hid (D4.out.store 3 (.string (strOf (pr4 bs).1)) (decPP bs) rfl)
  clear D4
  dsimp only at *
  go_wp2_with fail
  refine (rClose_any _ b _ _ D6.out.rd).mono ?_
  rintro e w6 ⟨rfl, rfl⟩
  clear c3 f3
  generalize w5.setCell ⟨w1.heap.size, 3, none⟩ (.string (strOf (pr4 bs).1)) = w6 at *
  obtain ⟨⟨c0, c1, c2, c3⟩, -⟩ := D6.out.cell
  have hR6 := (D6.out.below.block w.heap.size hwsz).trans HRb.out
  have r0 : w6.cell? ⟨w.heap.size, 0, none⟩ = some (.int .i64 0) := cell_of_heap hR6 0
  have r1 : w6.cell? ⟨w.heap.size, 1, none⟩ = some (.int .i64 0) := cell_of_heap hR6 1
  have r2 : w6.cell? ⟨w.heap.size, 2, none⟩ = some (.int .i64 0) := cell_of_heap hR6 2
  have r3 : w6.cell? ⟨w.heap.size, 3, none⟩ = some (.string ⟨#[]⟩) := cell_of_heap hR6 3
  have g0 : w6.frozen? ⟨w.heap.size, 0, none⟩ = false := frozen_of_heap hR6 0
  have g1 : w6.frozen? ⟨w.heap.size, 1, none⟩ = false := frozen_of_heap hR6 1
  have g2 : w6.frozen? ⟨w.heap.size, 2, none⟩ = false := frozen_of_heap hR6 2
  have g3 : w6.frozen? ⟨w.heap.size, 3, none⟩ = false := frozen_of_heap hR6 3
  have HR6 := Lib.hid hR6; clear hR6
  have HB6 : Hid (Below w.heap.size w w6) := Hwb.out.trans (D6.out.below.mono (Nat.le_of_lt hwsz))
  generalize hcl : rdClose (pr4 bs).2 = q at *
  have Hcl := Lib.hid hcl; clear hcl
  by_cases hq : q = 0
  · subst hq
    generalize hcq : checkP (decPP bs) = q at *
    have Hcq := Lib.hid hcq; clear hcq
    have Hdec : Hid (decP_ s = if (0 : Nat) = 0 ∧ q = 0 then (decPP bs, 0) else (zeroP, 3)) := by show _ = _; unfold decP_; rw [Hbs.out, Hcl.out, Hcq.out]
    have HT6 : Hid (w6.heap[w1.heap.size]? = some (.cells (pCells (decPP bs)) 66 (0, 0))) := D6.out.heap
    clear D6
    generalize decPP bs = p at *
    obtain ⟨ep, re, wr, by_⟩ := p
    dsimp only at *
    go_wp2_with fail
    refine (pCheck_is ep re wr by_ q Hcq.out _).mono ?_
    rintro e w7 ⟨rfl, hb7⟩
    have hR7 := (hb7.block w.heap.size (lt_of_heap HR6.out)).trans HR6.out
    have hT7 := (hb7.block w1.heap.size (lt_of_heap HT6.out)).trans HT6.out
    have H7 : Hid (Below w.heap.size w w7) := HB6.out.trans (hb7.mono (Nat.le_of_lt (lt_of_heap HR6.out)))
    clear r0 r1 r2 r3 g0 g1 g2 g3 c0 c1 c2 c3
    have c0 : w7.cell? ⟨w1.heap.size, 0, none⟩ = some (.int .i64 ep) := cell_of_heap hT7 0
    have c1 : w7.cell? ⟨w1.heap.size, 1, none⟩ = some (.int .i64 re) := cell_of_heap hT7 1
    have c2 : w7.cell? ⟨w1.heap.size, 2, none⟩ = some (.int .i64 wr) := cell_of_heap hT7 2
    have c3 : w7.cell? ⟨w1.heap.size, 3, none⟩ = some (.string by_) := cell_of_heap hT7 3
    have r0 : w7.cell? ⟨w.heap.size, 0, none⟩ = some (.int .i64 0) := cell_of_heap hR7 0
    have r1 : w7.cell? ⟨w.heap.size, 1, none⟩ = some (.int .i64 0) := cell_of_heap hR7 1
    have r2 : w7.cell? ⟨w.heap.size, 2, none⟩ = some (.int .i64 0) := cell_of_heap hR7 2
    have r3 : w7.cell? ⟨w.heap.size, 3, none⟩ = some (.string ⟨#[]⟩) := cell_of_heap hR7 3
    have g0 : w7.frozen? ⟨w.heap.size, 0, none⟩ = false := frozen_of_heap hR7 0
    have g1 : w7.frozen? ⟨w.heap.size, 1, none⟩ = false := frozen_of_heap hR7 1
    have g2 : w7.frozen? ⟨w.heap.size, 2, none⟩ = false := frozen_of_heap hR7 2
    have g3 : w7.frozen? ⟨w.heap.size, 3, none⟩ = false := frozen_of_heap hR7 3
    clear hR7 hT7 hb7
    by_cases hq : q = 0
    · subst hq
      have he : Hid (decP_ s = (⟨ep, re, wr, by_⟩, 0)) := Hdec.out.trans (by simp)
      clear Hdec
      go_wp2
      refine bodyPost_ret (v := .tuple #[.agg #[.int .i64 ep, .int .i64 re, .int .i64 wr, .string by_], .int .i64 0]) (by simp [results, Tryz.results82, go_sem, r0, r1, r2, r3]) rfl ?_
      rw [he.out]
      exact ⟨rfl, pBelow_row H7.out (pGrown_set4 _ _ _ _ _ _) (Nat.le_refl _) (fun k hk => by cases hk; exact Nat.le_refl _)⟩
    · have hq' : ((q : Int) != 0) = true := bne_iff_ne.2 (by omega)
      have he : Hid (decP_ s = (zeroP, 3)) := Hdec.out.trans (by simp [hq])
      clear hq Hdec
      go_wp2
      refine bodyPost_ret (v := .tuple #[.agg #[.int .i64 0, .int .i64 0, .int .i64 0, .string ⟨#[]⟩], .int .i64 3]) (by simp [results, Tryz.results82, go_sem, r0, r1, r2, r3]) rfl ?_
      rw [he.out]
      exact ⟨rfl, pBelow_row H7.out (pGrown_set4 _ _ _ _ _ _) (Nat.le_refl _) (fun k hk => by cases hk; exact Nat.le_refl _)⟩
  · have hq' : ((q : Int) != 0) = true := bne_iff_ne.2 (by omega)
    have he : Hid (decP_ s = (zeroP, 3)) := by show _ = _; unfold decP_; rw [Hbs.out, Hcl.out]; simp [hq]
    clear hq
    go_wp2
    refine bodyPost_ret (v := .tuple #[.agg #[.int .i64 0, .int .i64 0, .int .i64 0, .string ⟨#[]⟩], .int .i64 3]) (by simp [results, Tryz.results82, go_sem, r0, r1, r2, r3]) rfl ?_
    rw [he.out]
    exact ⟨rfl, pBelow_row HB6.out (pGrown_set4 _ _ _ _ _ _) (Nat.le_refl _) (fun k hk => by cases hk; exact Nat.le_refl _)⟩

end Go.Proofs.YtemmeopaihmlcaaGreatDoor
