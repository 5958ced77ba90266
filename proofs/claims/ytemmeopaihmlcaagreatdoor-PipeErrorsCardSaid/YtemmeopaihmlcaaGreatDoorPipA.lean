/- pipe: Check, Encode. -/
import Derived.Test.YtemmeopaihmlcaaGreatDoorViewC
import Derived.Test.YtemmeopaihmlcaaGreatDoorCodecH
namespace Go.Proofs.YtemmeopaihmlcaaGreatDoor
open Go.RowKit
attribute [local go_sem ↓] Go.wp_at_zero Go.wp_at_succ

/-- A pipe as a value. -/
structure PipeT where
  epoch : Int
  readers : Int
  writers : Int
  bytes : ByteArray
  deriving DecidableEq
def pCells (p : PipeT) : Array Value := #[.int .i64 p.epoch, .int .i64 p.readers, .int .i64 p.writers, .string p.bytes]
def pEpochB (n : Int) : Bool := decide (0 ≤ n ∧ n ≤ 1073741824)
def pEndsB (n : Int) : Bool := decide (0 ≤ n ∧ n ≤ 64)
def checkP (p : PipeT) : Nat := if pEpochB p.epoch = false ∨ pEndsB p.readers = false ∨ pEndsB p.writers = false then 2 else if p.readers = 0 ∧ p.writers = 0 then 1 else if 256 < p.bytes.size then 5 else 0
def encPB (p : PipeT) : List UInt8 := natBytes p.epoch.toNat ++ natBytes p.readers.toNat ++ natBytes p.writers.toNat ++ natBytes p.bytes.size ++ p.bytes.data.toList
def encP (p : PipeT) : ByteArray × Nat := if checkP p = 0 then (strOf (encPB p), 0) else (⟨#[]⟩, checkP p)

theorem checkP_ok {p : PipeT} (h : checkP p = 0) : (0 ≤ p.epoch ∧ p.epoch ≤ 1073741824) ∧ (0 ≤ p.readers ∧ p.readers ≤ 64) ∧ (0 ≤ p.writers ∧ p.writers ≤ 64) ∧ ¬ (p.readers = 0 ∧ p.writers = 0) ∧ p.bytes.size ≤ 256 := by
  unfold checkP at h
  split at h
  · cases h
  rename_i h1
  split at h
  · cases h
  rename_i h2
  split at h
  · cases h
  rename_i h3
  simp [pEpochB, pEndsB] at h1
  exact ⟨⟨h1.1.1, h1.1.2⟩, ⟨h1.2.1.1, h1.2.1.2⟩, ⟨h1.2.2.1, h1.2.2.2⟩, h2, by omega⟩

set_option maxHeartbeats 400000 in
theorem pEpoch_any (n : Int) (w : World) : Calls Tryz.prog 155 #[.int .i64 n] w fun r w' => r = .returned (.bool (pEpochB n)) ∧ w = w' := by
  by_cases h1 : 0 ≤ n
  · by_cases h2 : n ≤ 1073741824
    · go_enter Tryz.func155, Tryz.ntmps155
      go_wp2
      go_ret
      exact ⟨by simp [pEpochB, h1, h2], rfl⟩
    · go_enter Tryz.func155, Tryz.ntmps155
      go_wp2
      go_ret
      exact ⟨by simp [pEpochB, h2], rfl⟩
  · go_enter Tryz.func155, Tryz.ntmps155
    go_wp2
    go_ret
    exact ⟨by simp [pEpochB]; omega, rfl⟩
theorem pEpoch_is (n : Int) (v : Bool) (h : pEpochB n = v) (w : World) : Calls Tryz.prog 155 #[.int .i64 n] w fun r w' => r = .returned (.bool v) ∧ w = w' := by
  subst h; exact pEpoch_any n w
set_option maxHeartbeats 400000 in
theorem pEnds_any (n : Int) (w : World) : Calls Tryz.prog 202 #[.int .i64 n] w fun r w' => r = .returned (.bool (pEndsB n)) ∧ w = w' := by
  by_cases h1 : 0 ≤ n
  · by_cases h2 : n ≤ 64
    · go_enter Tryz.func202, Tryz.ntmps202
      go_wp2
      go_ret
      exact ⟨by simp [pEndsB, h1, h2], rfl⟩
    · go_enter Tryz.func202, Tryz.ntmps202
      go_wp2
      go_ret
      exact ⟨by simp [pEndsB, h2], rfl⟩
  · go_enter Tryz.func202, Tryz.ntmps202
    go_wp2
    go_ret
    exact ⟨by simp [pEndsB]; omega, rfl⟩
theorem pEnds_is (n : Int) (v : Bool) (h : pEndsB n = v) (w : World) : Calls Tryz.prog 202 #[.int .i64 n] w fun r w' => r = .returned (.bool v) ∧ w = w' := by
  subst h; exact pEnds_any n w

set_option maxRecDepth 100000 in
set_option maxHeartbeats 2000000 in
theorem pCheck_any (ep re wr : Int) (by_ : ByteArray) (w : World) :
    Calls Tryz.prog 157 #[.agg #[.int .i64 ep, .int .i64 re, .int .i64 wr, .string by_]] w fun r w' => r = .returned (.int .i64 (checkP ⟨ep, re, wr, by_⟩)) ∧ Below w.heap.size w w' := by
  have Hbx : Hid (∀ v t, Below w.heap.size w (w.alloc (.cells v t))) := fun v t => (Below.refl _ _).alloc (Nat.le_refl _) _
  cases h1 : pEpochB ep with
  | false =>
    have he : Hid (checkP ⟨ep, re, wr, by_⟩ = 2) := by show _ = _; simp [checkP, h1]
    go_enter Tryz.func157, Tryz.ntmps157
    go_wp2_with fail
    refine (pEpoch_is ep _ h1 _).mono ?_
    rintro e w1 ⟨rfl, rfl⟩
    go_wp2
    go_ret
    rw [he.out]
    exact ⟨rfl, Hbx.out _ _⟩
  | true =>
    cases h2 : pEndsB re with
    | false =>
      have he : Hid (checkP ⟨ep, re, wr, by_⟩ = 2) := by show _ = _; simp [checkP, h2]
      go_enter Tryz.func157, Tryz.ntmps157
      go_wp2_with fail
      refine (pEpoch_is ep _ h1 _).mono ?_
      rintro e w1 ⟨rfl, rfl⟩
      go_wp2_with fail
      refine (pEnds_is re _ h2 _).mono ?_
      rintro e w1 ⟨rfl, rfl⟩
      go_wp2
      go_ret
      rw [he.out]
      exact ⟨rfl, Hbx.out _ _⟩
    | true =>
      cases h3 : pEndsB wr with
      | false =>
        have he : Hid (checkP ⟨ep, re, wr, by_⟩ = 2) := by show _ = _; simp [checkP, h3]
        go_enter Tryz.func157, Tryz.ntmps157
        go_wp2_with fail
        refine (pEpoch_is ep _ h1 _).mono ?_
        rintro e w1 ⟨rfl, rfl⟩
        go_wp2_with fail
        refine (pEnds_is re _ h2 _).mono ?_
        rintro e w1 ⟨rfl, rfl⟩
        go_wp2_with fail
        refine (pEnds_is wr _ h3 _).mono ?_
        rintro e w1 ⟨rfl, rfl⟩
        go_wp2
        go_ret
        rw [he.out]
        exact ⟨rfl, Hbx.out _ _⟩
      | true =>
        by_cases h4 : re = 0 ∧ wr = 0
        · have he : Hid (checkP ⟨ep, re, wr, by_⟩ = 1) := by show _ = _; simp [checkP, h1, h4.1, h4.2]; decide
          obtain ⟨rfl, rfl⟩ := h4
          go_enter Tryz.func157, Tryz.ntmps157
          go_wp2_with fail
          refine (pEpoch_is ep _ h1 _).mono ?_
          rintro e w1 ⟨rfl, rfl⟩
          go_wp2_with fail
          refine (pEnds_is 0 _ h2 _).mono ?_
          rintro e w1 ⟨rfl, rfl⟩
          go_wp2_with fail
          refine (pEnds_is 0 _ h3 _).mono ?_
          rintro e w1 ⟨rfl, rfl⟩
          go_wp2
          go_ret
          rw [he.out]
          exact ⟨rfl, Hbx.out _ _⟩
        · have hways : ((re == 0) = false) ∨ ((re == 0) = true ∧ (wr == 0) = false) := by
            by_cases h : re = 0
            · exact .inr ⟨by simp [h], by simp; intro h'; exact h4 ⟨h, h'⟩⟩
            · exact .inl (by simp [h])
          by_cases h5 : 256 < by_.size
          · have he : Hid (checkP ⟨ep, re, wr, by_⟩ = 5) := by show _ = _; simp [checkP, h1, h2, h3, h4, h5]
            clear h4
            rcases hways with h4 | ⟨h4, h6⟩
            all_goals
              go_enter Tryz.func157, Tryz.ntmps157
              go_wp2_with fail
              refine (pEpoch_is ep _ h1 _).mono ?_
              rintro e w1 ⟨rfl, rfl⟩
              go_wp2_with fail
              refine (pEnds_is re _ h2 _).mono ?_
              rintro e w1 ⟨rfl, rfl⟩
              go_wp2_with fail
              refine (pEnds_is wr _ h3 _).mono ?_
              rintro e w1 ⟨rfl, rfl⟩
              go_wp2
              go_ret
              rw [he.out]
              exact ⟨rfl, Hbx.out _ _⟩
          · have he : Hid (checkP ⟨ep, re, wr, by_⟩ = 0) := by show _ = _; simp [checkP, h1, h2, h3, h4, h5]
            clear h4
            rcases hways with h4 | ⟨h4, h6⟩
            all_goals
              go_enter Tryz.func157, Tryz.ntmps157
              go_wp2_with fail
              refine (pEpoch_is ep _ h1 _).mono ?_
              rintro e w1 ⟨rfl, rfl⟩
              go_wp2_with fail
              refine (pEnds_is re _ h2 _).mono ?_
              rintro e w1 ⟨rfl, rfl⟩
              go_wp2_with fail
              refine (pEnds_is wr _ h3 _).mono ?_
              rintro e w1 ⟨rfl, rfl⟩
              go_wp2
              go_ret
              rw [he.out]
              exact ⟨rfl, Hbx.out _ _⟩
theorem pCheck_is (ep re wr : Int) (by_ : ByteArray) (q : Nat) (h : checkP ⟨ep, re, wr, by_⟩ = q) (w : World) :
    Calls Tryz.prog 157 #[.agg #[.int .i64 ep, .int .i64 re, .int .i64 wr, .string by_]] w fun r w' => r = .returned (.int .i64 q) ∧ Below w.heap.size w w' := by
  subst h; exact pCheck_any ep re wr by_ w

theorem pNat_ne (n : Nat) : natBytes n ≠ [] := by
  unfold natBytes
  simp only [nat7]
  split <;> simp
theorem pWr_box {w : World} : Wr w.heap.size w.heap.size (w.alloc (.cells #[.slice none 0 0, .int .i64 0] 269)) [] :=
  ⟨Nat.le_refl _, .slice none 0 0, heap_alloc_new w _, World.ownsRow_nil _ _ _ _, fun g hg => by cases hg⟩

set_option maxRecDepth 100000 in
set_option maxHeartbeats 4000000 in
theorem pEncode_any (ep re wr : Int) (by_ : ByteArray) (w : World) :
    Calls Tryz.prog 84 #[.agg #[.int .i64 ep, .int .i64 re, .int .i64 wr, .string by_]] w fun r w' => r = .returned (.tuple #[.string (encP ⟨ep, re, wr, by_⟩).1, .int .i64 (encP ⟨ep, re, wr, by_⟩).2]) ∧ Below w.heap.size w w' := by
  have Hbx : Hid (∀ v t, Below w.heap.size w (w.alloc (.cells v t))) := fun v t => (Below.refl _ _).alloc (Nat.le_refl _) _
  generalize hq : checkP ⟨ep, re, wr, by_⟩ = q at *
  have Hq := Lib.hid hq; clear hq
  go_enter Tryz.func84, Tryz.ntmps84
  go_wp2_with fail
  refine (pCheck_is ep re wr by_ q Hq.out _).mono ?_
  rintro e w1 ⟨rfl, hb1⟩
  have hqc : ∀ j, w1.cell? ⟨w.heap.size, j, none⟩ = (#[.int .i64 ep, .int .i64 re, .int .i64 wr, .string by_] : Array Value)[j]? := fun j => ((bcell hb1).1 _ _ (by simp)).trans (cell_of_heap (World.alloc_heap_new w _) j)
  have Hb1 : Hid (Below w.heap.size w w1) := (Hbx.out _ _).trans (hb1.mono (by simp))
  have hsz1 : w.heap.size < w1.heap.size := by have := hb1.size; simp at this; omega
  clear hb1
  by_cases h0 : q = 0
  · obtain ⟨hep, hre, hwr, _, hby⟩ := checkP_ok (Hq.out.trans h0)
    dsimp only at hep hre hwr hby
    subst h0
    have he : Hid (encP ⟨ep, re, wr, by_⟩ = (strOf (encPB ⟨ep, re, wr, by_⟩), 0)) := by show _ = _; simp [encP, Hq.out]
    have hl1 := natBytes_length ep.toNat
    have hl2 := natBytes_length re.toNat
    have hl3 := natBytes_length wr.toNat
    have hl4 := natBytes_length by_.size
    have Hl : Hid ((natBytes ep.toNat).length ≤ 10 ∧ (natBytes re.toNat).length ≤ 10 ∧ (natBytes wr.toNat).length ≤ 10 ∧ (natBytes by_.size).length ≤ 10) := ⟨hl1, hl2, hl3, hl4⟩
    clear hl1 hl2 hl3 hl4
    go_wp2_with fail
    refine (newWriter_any _).mono ?_
    rintro e w2 ⟨rfl, rfl⟩
    have Hwr := Lib.hid (pWr_box (w := w1))
    have hB0 : Below w1.heap.size w1 (w1.alloc (.cells #[.slice none 0 0, .int .i64 0] 269)) := (Below.refl _ _).alloc (Nat.le_refl _) _
    generalize w1.alloc (.cells #[.slice none 0 0, .int .i64 0] 269) = w2 at *
    have hc0 : w2.cell? ⟨w.heap.size, 0, none⟩ = some (.int .i64 ep) := ((bcell hB0).1 _ _ hsz1).trans (hqc 0)
    have HB2 := Lib.hid hB0; clear hB0
    have Hqc := Lib.hid hqc; clear hqc
    go_wp2_with fail
    refine (number_any w1.heap.size w1.heap.size [] ep _ hep.1 (by omega) (by simp) HB2.out.size Hwr.out).mono ?_
    rintro e w3 ⟨rfl, hwr3, hb⟩
    have HB3 : Hid (Below w1.heap.size w1 w3) := HB2.out.trans hb
    clear HB2 Hwr hc0 hb
    have Hwr := Lib.hid hwr3; clear hwr3
    have hc1 : w3.cell? ⟨w.heap.size, 1, none⟩ = some (.int .i64 re) := ((bcell HB3.out).1 _ _ hsz1).trans (Hqc.out 1)
    go_wp2_with fail
    refine (number_any w1.heap.size w1.heap.size _ re _ hre.1 (by omega) (by have := Hl.out; simp; omega) HB3.out.size Hwr.out).mono ?_
    rintro e w4 ⟨rfl, hwr3, hb⟩
    have HB4 : Hid (Below w1.heap.size w1 w4) := HB3.out.trans hb
    clear HB3 Hwr hc1 hb
    have Hwr := Lib.hid hwr3; clear hwr3
    have hc2 : w4.cell? ⟨w.heap.size, 2, none⟩ = some (.int .i64 wr) := ((bcell HB4.out).1 _ _ hsz1).trans (Hqc.out 2)
    go_wp2_with fail
    refine (number_any w1.heap.size w1.heap.size _ wr _ hwr.1 (by omega) (by have := Hl.out; simp; omega) HB4.out.size Hwr.out).mono ?_
    rintro e w5 ⟨rfl, hwr3, hb⟩
    have HB5 : Hid (Below w1.heap.size w1 w5) := HB4.out.trans hb
    clear HB4 Hwr hc2 hb
    have Hwr := Lib.hid hwr3; clear hwr3
    have hc3 : w5.cell? ⟨w.heap.size, 3, none⟩ = some (.string by_) := ((bcell HB5.out).1 _ _ hsz1).trans (Hqc.out 3)
    go_wp2_with fail
    refine (text_any w1.heap.size w1.heap.size _ by_ _ (by omega) (by have := Hl.out; simp; omega) HB5.out.size Hwr.out).mono ?_
    rintro e w6 ⟨rfl, hwr3, hb⟩
    have HB6 : Hid (Below w1.heap.size w1 w6) := HB5.out.trans hb
    clear HB5 Hwr hc3 hb
    have hfull : [] ++ natBytes ep.toNat ++ natBytes re.toNat ++ natBytes wr.toNat ++ natBytes by_.size ++ by_.data.toList = encPB ⟨ep, re, wr, by_⟩ := by simp [encPB]
    rw [hfull] at hwr3
    have hll2 : Hid ((encPB ⟨ep, re, wr, by_⟩).length ≤ 35184372088832) := by
      show _ ≤ _
      have := Hl.out
      simp only [encPB, List.length_append, size_toList]
      omega
    clear hfull
    have HWn := Lib.hid hwr3; clear hwr3
    go_wp2_with fail
    refine (bytes_any w1.heap.size w1.heap.size _ _ hll2.out HWn.out).mono ?_
    rintro e w7 ⟨v, rfl, hrow, hb, hform⟩
    rcases hform with rfl | ⟨g2, n2, c2, rfl, hg2⟩
    · exfalso
      rcases hrow.2 with ⟨_, h⟩ | ⟨g', cap', cur, h0, _⟩
      · have := pNat_ne ep.toNat
        simp [encPB] at h
        exact this h.1
      · cases h0
    · have hconv := run_bytes_str w7 g2 0 n2 c2 _ hrow.sl.1
      have Hfin : Hid (Below w.heap.size w w7) := (Hb1.out.trans (HB6.out.mono (by omega))).trans (hb.mono (by have := HB6.out.size; omega))
      clear hrow hb HB6 HWn
      go_wp2
      go_ret2
      rw [he.out]
      exact ⟨rfl, Hfin.out⟩
  · have he : Hid (encP ⟨ep, re, wr, by_⟩ = (⟨#[]⟩, q)) := by show _ = _; simp [encP, Hq.out, h0]
    have h0' : ((q : Int) != 0) = true := bne_iff_ne.2 (by omega)
    clear h0
    go_wp2
    go_ret2
    rw [he.out]
    exact ⟨rfl, Hb1.out⟩

end Go.Proofs.YtemmeopaihmlcaaGreatDoor
