/- reference 32: Make, Join, Leave. reference 32: Read. reference 32: Write. -/
import Derived.Test.YtemmeopaihmlcaaGreatDoorPlyA
import Derived.BigRegion
namespace Go.Proofs.YtemmeopaihmlcaaGreatDoor
open Go.RowKit
attribute [local go_sem ↓] Go.wp_at_zero Go.wp_at_succ

def rMake (p : PipeT) (e : Int) : PipeT × Nat := if checkP p = 0 then (p, 13) else (⟨e, 1, 1, ⟨#[]⟩⟩, 0)
def rJoin (x : Bool) (p : PipeT) (e : Int) : PipeT × Nat := if isPB p e = false then (p, 8) else opJoin x p
def rGone (r : PipeT × Nat) : PipeT × Nat := if r.2 = 0 ∧ r.1.readers = 0 ∧ r.1.writers = 0 then (zeroP, 0) else r
def rLeave (x : Bool) (p : PipeT) (e : Int) : PipeT × Nat := if isPB p e = false then (p, 8) else rGone (opLeave x p)
theorem isPB_ok {p : PipeT} {e : Int} (h : isPB p e = true) : checkP p = 0 ∧ p.epoch = e := by
  unfold isPB at h
  rw [Bool.and_eq_true, decide_eq_true_eq, decide_eq_true_eq] at h
  exact h

set_option maxRecDepth 100000 in
set_option maxHeartbeats 3200000 in
theorem rfMake_any (ep re wr : Int) (by_ : ByteArray) (e : Int) (w : World) :
    Calls Tryz.prog 94 #[.agg #[.int .i64 ep, .int .i64 re, .int .i64 wr, .string by_], .int .i64 e] w (PipePost w (rMake ⟨ep, re, wr, by_⟩ e)) := by
  have HS := Lib.hid (RJ.start w ⟨ep, re, wr, by_⟩)
  unfold PipePost pipeV
  dsimp only [pCells, zeroP] at HS
  obtain ⟨q, hq⟩ : ∃ q, checkP ⟨ep, re, wr, by_⟩ = q := ⟨_, rfl⟩
  have Hq := Lib.hid hq; clear hq
  go_enter Tryz.func94, Tryz.ntmps94
  go_wp2_with fail
  refine (rfCheck_is ep re wr by_ q Hq.out _).mono ?_
  rintro r w1 ⟨rfl, hb⟩
  have D := Lib.hid (HS.out.later hb)
  clear hb HS
  obtain ⟨b0, b1, b2, b3⟩ := D.out.cells
  obtain ⟨o0, o1, o2, o3⟩ := D.out.outs
  obtain ⟨g0, g1, g2, g3⟩ := D.out.free
  dsimp only at b0 b1 b2 b3
  by_cases h0 : q = 0
  · subst h0
    have he : Hid (rMake ⟨ep, re, wr, by_⟩ e = (⟨ep, re, wr, by_⟩, 13)) := if_pos Hq.out
    clear Hq
    go_wp2
    refine bodyPost_ret (v := .tuple #[.agg #[.int .i64 ep, .int .i64 re, .int .i64 wr, .string by_], .int .i64 13]) (by simp [results, Tryz.results94, go_sem, o0, o1, o2, o3]) rfl ?_
    rw [he.out]
    exact ⟨rfl, D.out.fin _ _ _ _⟩
  · have h0' : ((q : Int) == 0) = false := beq_eq_false_iff_ne.2 (by omega)
    have he : Hid (rMake ⟨ep, re, wr, by_⟩ e = (⟨e, 1, 1, ⟨#[]⟩⟩, 0)) := if_neg (by rw [Hq.out]; exact h0)
    clear Hq h0
    go_wp2
    refine bodyPost_ret (v := .tuple #[.agg #[.int .i64 e, .int .i64 1, .int .i64 1, .string ⟨#[]⟩], .int .i64 0]) (by simp [results, Tryz.results94, go_sem, o0, o1, o2, o3]) rfl ?_
    rw [he.out]
    exact ⟨rfl, D.out.fin _ _ _ _⟩

set_option maxRecDepth 100000 in
set_option maxHeartbeats 3200000 in
theorem rfJoin_any (ep re wr : Int) (by_ : ByteArray) (e : Int) (x : Bool) (w : World) :
    Calls Tryz.prog 97 #[.agg #[.int .i64 ep, .int .i64 re, .int .i64 wr, .string by_], .int .i64 e, .bool x] w (PipePost w (rJoin x ⟨ep, re, wr, by_⟩ e)) := by
  have HS := Lib.hid (RJ.start w ⟨ep, re, wr, by_⟩)
  unfold PipePost pipeV
  dsimp only [pCells, zeroP] at HS
  have HB0 := Lib.hid (HS.out.cells)
  obtain ⟨v, hv⟩ : ∃ v, isPB ⟨ep, re, wr, by_⟩ e = v := ⟨_, rfl⟩
  have Hv := Lib.hid hv; clear hv
  cases x
  case false =>
    go_enter Tryz.func97, Tryz.ntmps97
    go_wp2_with fail
    refine (rfIs_is ep re wr by_ e v Hv.out _).mono ?_
    rintro r w1 ⟨rfl, hb⟩
    have D := Lib.hid (HS.out.later hb)
    clear hb HS HB0
    obtain ⟨b0, b1, b2, b3⟩ := D.out.cells
    obtain ⟨o0, o1, o2, o3⟩ := D.out.outs
    obtain ⟨g0, g1, g2, g3⟩ := D.out.free
    dsimp only at b0 b1 b2 b3
    cases v with
    | false =>
      have he : Hid (rJoin false ⟨ep, re, wr, by_⟩ e = (⟨ep, re, wr, by_⟩, 8)) := if_pos Hv.out
      clear Hv
      go_wp2
      refine bodyPost_ret (v := .tuple #[.agg #[.int .i64 ep, .int .i64 re, .int .i64 wr, .string by_], .int .i64 8]) (by simp [results, Tryz.results97, go_sem, o0, o1, o2, o3]) rfl ?_
      rw [he.out]
      exact ⟨rfl, D.out.fin _ _ _ _⟩
    | true =>
      obtain ⟨_, hre, hwr, hno, _⟩ := checkP_ok (isPB_ok Hv.out).1
      dsimp only at hre hwr hno
      have Hno := Lib.hid hno; clear hno
      have hJ : Hid (rJoin false ⟨ep, re, wr, by_⟩ e = opJoin false ⟨ep, re, wr, by_⟩) := if_neg (by rw [Hv.out]; simp)
      clear Hv
      by_cases h0 : re = 0
      · have he : Hid (rJoin false ⟨ep, re, wr, by_⟩ e = (⟨ep, re, wr, by_⟩, 20)) := hJ.out.trans (by simp [opJoin, h0])
        have h0' : (re == 0) = true := beq_iff_eq.2 h0
        clear hJ h0
        go_wp2
        refine bodyPost_ret (v := .tuple #[.agg #[.int .i64 ep, .int .i64 re, .int .i64 wr, .string by_], .int .i64 20]) (by simp [results, Tryz.results97, go_sem, o0, o1, o2, o3]) rfl ?_
        rw [he.out]
        exact ⟨rfl, D.out.fin _ _ _ _⟩
      have h0' : (re == 0) = false := beq_eq_false_iff_ne.2 h0
      by_cases h1 : re = 64
      · have he : Hid (rJoin false ⟨ep, re, wr, by_⟩ e = (⟨ep, re, wr, by_⟩, 9)) := hJ.out.trans (by simp [opJoin, h1])
        have h1' : (re == 64) = true := beq_iff_eq.2 h1
        clear hJ h0 h1
        go_wp2
        refine bodyPost_ret (v := .tuple #[.agg #[.int .i64 ep, .int .i64 re, .int .i64 wr, .string by_], .int .i64 9]) (by simp [results, Tryz.results97, go_sem, o0, o1, o2, o3]) rfl ?_
        rw [he.out]
        exact ⟨rfl, D.out.fin _ _ _ _⟩
      have h1' : (re == 64) = false := beq_eq_false_iff_ne.2 h1
      have he : Hid (rJoin false ⟨ep, re, wr, by_⟩ e = (⟨ep, re + 1, wr, by_⟩, 0)) := hJ.out.trans (by simp [opJoin, h0, h1])
      clear h0 h1
      have hf := D.out.boxFree 1
      go_upto_region 13 with fail
      have D2 := Lib.hid (D.out.set 1 (.int .i64 (re + 1)) ⟨ep, re + 1, wr, by_⟩ rfl)
      clear b0 b1 b2 b3 o0 o1 o2 o3 g0 g1 g2 g3 hf D h0'
      generalize w1.setCell ⟨w.heap.size, 1, none⟩ (.int .i64 (re + 1)) = w2 at *
      obtain ⟨b0, b1, b2, b3⟩ := D2.out.cells
      obtain ⟨o0, o1, o2, o3⟩ := D2.out.outs
      obtain ⟨g0, g1, g2, g3⟩ := D2.out.free
      dsimp only at b0 b1 b2 b3
      go_wp2
      refine bodyPost_ret (v := .tuple #[.agg #[.int .i64 ep, .int .i64 (re + 1), .int .i64 (wr), .string by_], .int .i64 0]) (by simp [results, Tryz.results97, go_sem, o0, o1, o2, o3]) rfl ?_
      rw [he.out]
      exact ⟨rfl, D2.out.fin _ _ _ _⟩
  case true =>
    go_enter Tryz.func97, Tryz.ntmps97
    go_wp2_with fail
    refine (rfIs_is ep re wr by_ e v Hv.out _).mono ?_
    rintro r w1 ⟨rfl, hb⟩
    have D := Lib.hid (HS.out.later hb)
    clear hb HS HB0
    obtain ⟨b0, b1, b2, b3⟩ := D.out.cells
    obtain ⟨o0, o1, o2, o3⟩ := D.out.outs
    obtain ⟨g0, g1, g2, g3⟩ := D.out.free
    dsimp only at b0 b1 b2 b3
    cases v with
    | false =>
      have he : Hid (rJoin true ⟨ep, re, wr, by_⟩ e = (⟨ep, re, wr, by_⟩, 8)) := if_pos Hv.out
      clear Hv
      go_wp2
      refine bodyPost_ret (v := .tuple #[.agg #[.int .i64 ep, .int .i64 re, .int .i64 wr, .string by_], .int .i64 8]) (by simp [results, Tryz.results97, go_sem, o0, o1, o2, o3]) rfl ?_
      rw [he.out]
      exact ⟨rfl, D.out.fin _ _ _ _⟩
    | true =>
      obtain ⟨_, hre, hwr, hno, _⟩ := checkP_ok (isPB_ok Hv.out).1
      dsimp only at hre hwr hno
      have Hno := Lib.hid hno; clear hno
      have hJ : Hid (rJoin true ⟨ep, re, wr, by_⟩ e = opJoin true ⟨ep, re, wr, by_⟩) := if_neg (by rw [Hv.out]; simp)
      clear Hv
      by_cases h0 : wr = 0
      · have he : Hid (rJoin true ⟨ep, re, wr, by_⟩ e = (⟨ep, re, wr, by_⟩, 20)) := hJ.out.trans (by simp [opJoin, h0])
        have h0' : (wr == 0) = true := beq_iff_eq.2 h0
        clear hJ h0
        go_wp2
        refine bodyPost_ret (v := .tuple #[.agg #[.int .i64 ep, .int .i64 re, .int .i64 wr, .string by_], .int .i64 20]) (by simp [results, Tryz.results97, go_sem, o0, o1, o2, o3]) rfl ?_
        rw [he.out]
        exact ⟨rfl, D.out.fin _ _ _ _⟩
      have h0' : (wr == 0) = false := beq_eq_false_iff_ne.2 h0
      by_cases h1 : wr = 64
      · have he : Hid (rJoin true ⟨ep, re, wr, by_⟩ e = (⟨ep, re, wr, by_⟩, 9)) := hJ.out.trans (by simp [opJoin, h1])
        have h1' : (wr == 64) = true := beq_iff_eq.2 h1
        clear hJ h0 h1
        go_wp2
        refine bodyPost_ret (v := .tuple #[.agg #[.int .i64 ep, .int .i64 re, .int .i64 wr, .string by_], .int .i64 9]) (by simp [results, Tryz.results97, go_sem, o0, o1, o2, o3]) rfl ?_
        rw [he.out]
        exact ⟨rfl, D.out.fin _ _ _ _⟩
      have h1' : (wr == 64) = false := beq_eq_false_iff_ne.2 h1
      have he : Hid (rJoin true ⟨ep, re, wr, by_⟩ e = (⟨ep, re, wr + 1, by_⟩, 0)) := hJ.out.trans (by simp [opJoin, h0, h1])
      clear h0 h1
      have hf := D.out.boxFree 2
      go_upto_region 13 with fail
      have D2 := Lib.hid (D.out.set 2 (.int .i64 (wr + 1)) ⟨ep, re, wr + 1, by_⟩ rfl)
      clear b0 b1 b2 b3 o0 o1 o2 o3 g0 g1 g2 g3 hf D h0'
      generalize w1.setCell ⟨w.heap.size, 2, none⟩ (.int .i64 (wr + 1)) = w2 at *
      obtain ⟨b0, b1, b2, b3⟩ := D2.out.cells
      obtain ⟨o0, o1, o2, o3⟩ := D2.out.outs
      obtain ⟨g0, g1, g2, g3⟩ := D2.out.free
      dsimp only at b0 b1 b2 b3
      go_wp2
      refine bodyPost_ret (v := .tuple #[.agg #[.int .i64 ep, .int .i64 (re), .int .i64 (wr + 1), .string by_], .int .i64 0]) (by simp [results, Tryz.results97, go_sem, o0, o1, o2, o3]) rfl ?_
      rw [he.out]
      exact ⟨rfl, D2.out.fin _ _ _ _⟩

set_option maxRecDepth 100000 in
set_option maxHeartbeats 3200000 in
theorem rfLeave_any (ep re wr : Int) (by_ : ByteArray) (e : Int) (x : Bool) (w : World) :
    Calls Tryz.prog 98 #[.agg #[.int .i64 ep, .int .i64 re, .int .i64 wr, .string by_], .int .i64 e, .bool x] w (PipePost w (rLeave x ⟨ep, re, wr, by_⟩ e)) := by
  have HS := Lib.hid (RJ.start w ⟨ep, re, wr, by_⟩)
  unfold PipePost pipeV
  dsimp only [pCells, zeroP] at HS
  have HB0 := Lib.hid (HS.out.cells)
  obtain ⟨v, hv⟩ : ∃ v, isPB ⟨ep, re, wr, by_⟩ e = v := ⟨_, rfl⟩
  have Hv := Lib.hid hv; clear hv
  cases x
  case false =>
    go_enter Tryz.func98, Tryz.ntmps98
    go_wp2_with fail
    refine (rfIs_is ep re wr by_ e v Hv.out _).mono ?_
    rintro r w1 ⟨rfl, hb⟩
    have D := Lib.hid (HS.out.later hb)
    clear hb HS HB0
    obtain ⟨b0, b1, b2, b3⟩ := D.out.cells
    obtain ⟨o0, o1, o2, o3⟩ := D.out.outs
    obtain ⟨g0, g1, g2, g3⟩ := D.out.free
    dsimp only at b0 b1 b2 b3
    cases v with
    | false =>
      have he : Hid (rLeave false ⟨ep, re, wr, by_⟩ e = (⟨ep, re, wr, by_⟩, 8)) := if_pos Hv.out
      clear Hv
      go_wp2
      refine bodyPost_ret (v := .tuple #[.agg #[.int .i64 ep, .int .i64 re, .int .i64 wr, .string by_], .int .i64 8]) (by simp [results, Tryz.results98, go_sem, o0, o1, o2, o3]) rfl ?_
      rw [he.out]
      exact ⟨rfl, D.out.fin _ _ _ _⟩
    | true =>
      obtain ⟨_, hre, hwr, hno, _⟩ := checkP_ok (isPB_ok Hv.out).1
      dsimp only at hre hwr hno
      have Hno := Lib.hid hno; clear hno
      have hJ : Hid (rLeave false ⟨ep, re, wr, by_⟩ e = rGone (opLeave false ⟨ep, re, wr, by_⟩)) := if_neg (by rw [Hv.out]; simp)
      clear Hv
      by_cases h0 : re = 0
      · have he : Hid (rLeave false ⟨ep, re, wr, by_⟩ e = (⟨ep, re, wr, by_⟩, 20)) := hJ.out.trans (by simp [opLeave, h0, rGone])
        have h0' : (re == 0) = true := beq_iff_eq.2 h0
        clear hJ h0
        go_wp2
        refine bodyPost_ret (v := .tuple #[.agg #[.int .i64 ep, .int .i64 re, .int .i64 wr, .string by_], .int .i64 20]) (by simp [results, Tryz.results98, go_sem, o0, o1, o2, o3]) rfl ?_
        rw [he.out]
        exact ⟨rfl, D.out.fin _ _ _ _⟩
      have h0' : (re == 0) = false := beq_eq_false_iff_ne.2 h0
      have hf := D.out.boxFree 1
      go_upto_region 11 with fail
      have D2 := Lib.hid (D.out.set 1 (.int .i64 (re - 1)) ⟨ep, re - 1, wr, by_⟩ rfl)
      clear b0 b1 b2 b3 o0 o1 o2 o3 g0 g1 g2 g3 hf D h0'
      generalize w1.setCell ⟨w.heap.size, 1, none⟩ (.int .i64 (re - 1)) = w2 at *
      obtain ⟨b0, b1, b2, b3⟩ := D2.out.cells
      obtain ⟨o0, o1, o2, o3⟩ := D2.out.outs
      obtain ⟨g0, g1, g2, g3⟩ := D2.out.free
      dsimp only at b0 b1 b2 b3
      by_cases h2 : re - 1 = 0
      · by_cases h3 : wr = 0
        · have he : Hid (rLeave false ⟨ep, re, wr, by_⟩ e = (zeroP, 0)) := hJ.out.trans (by simp [opLeave, rGone, h0, h2, h3])
          have h2' : (re - 1 == 0) = true := beq_iff_eq.2 h2
          have h3' : (wr == 0) = true := beq_iff_eq.2 h3
          clear hJ h0 h2 h3
          go_wp2
          refine bodyPost_ret (v := .tuple #[.agg #[.int .i64 0, .int .i64 0, .int .i64 0, .string ⟨#[]⟩], .int .i64 0]) (by simp [results, Tryz.results98, go_sem, o0, o1, o2, o3]) rfl ?_
          rw [he.out]
          exact ⟨rfl, D2.out.fin _ _ _ _⟩
        · have he : Hid (rLeave false ⟨ep, re, wr, by_⟩ e = (⟨ep, re - 1, wr, by_⟩, 0)) := hJ.out.trans (by simp [opLeave, rGone, h0, h2, h3])
          have h2' : (re - 1 == 0) = true := beq_iff_eq.2 h2
          have h3' : (wr == 0) = false := beq_eq_false_iff_ne.2 h3
          clear hJ h0 h2 h3
          go_wp2
          refine bodyPost_ret (v := .tuple #[.agg #[.int .i64 ep, .int .i64 (re - 1), .int .i64 (wr), .string by_], .int .i64 0]) (by simp [results, Tryz.results98, go_sem, o0, o1, o2, o3]) rfl ?_
          rw [he.out]
          exact ⟨rfl, D2.out.fin _ _ _ _⟩
      · have he : Hid (rLeave false ⟨ep, re, wr, by_⟩ e = (⟨ep, re - 1, wr, by_⟩, 0)) := hJ.out.trans (by simp [opLeave, rGone, h0, h2])
        have h2' : (re - 1 == 0) = false := beq_eq_false_iff_ne.2 h2
        clear hJ h0 h2
        go_wp2
        refine bodyPost_ret (v := .tuple #[.agg #[.int .i64 ep, .int .i64 (re - 1), .int .i64 (wr), .string by_], .int .i64 0]) (by simp [results, Tryz.results98, go_sem, o0, o1, o2, o3]) rfl ?_
        rw [he.out]
        exact ⟨rfl, D2.out.fin _ _ _ _⟩
  case true =>
    go_enter Tryz.func98, Tryz.ntmps98
    go_wp2_with fail
    refine (rfIs_is ep re wr by_ e v Hv.out _).mono ?_
    rintro r w1 ⟨rfl, hb⟩
    have D := Lib.hid (HS.out.later hb)
    clear hb HS HB0
    obtain ⟨b0, b1, b2, b3⟩ := D.out.cells
    obtain ⟨o0, o1, o2, o3⟩ := D.out.outs
    obtain ⟨g0, g1, g2, g3⟩ := D.out.free
    dsimp only at b0 b1 b2 b3
    cases v with
    | false =>
      have he : Hid (rLeave true ⟨ep, re, wr, by_⟩ e = (⟨ep, re, wr, by_⟩, 8)) := if_pos Hv.out
      clear Hv
      go_wp2
      refine bodyPost_ret (v := .tuple #[.agg #[.int .i64 ep, .int .i64 re, .int .i64 wr, .string by_], .int .i64 8]) (by simp [results, Tryz.results98, go_sem, o0, o1, o2, o3]) rfl ?_
      rw [he.out]
      exact ⟨rfl, D.out.fin _ _ _ _⟩
    | true =>
      obtain ⟨_, hre, hwr, hno, _⟩ := checkP_ok (isPB_ok Hv.out).1
      dsimp only at hre hwr hno
      have Hno := Lib.hid hno; clear hno
      have hJ : Hid (rLeave true ⟨ep, re, wr, by_⟩ e = rGone (opLeave true ⟨ep, re, wr, by_⟩)) := if_neg (by rw [Hv.out]; simp)
      clear Hv
      by_cases h0 : wr = 0
      · have he : Hid (rLeave true ⟨ep, re, wr, by_⟩ e = (⟨ep, re, wr, by_⟩, 20)) := hJ.out.trans (by simp [opLeave, h0, rGone])
        have h0' : (wr == 0) = true := beq_iff_eq.2 h0
        clear hJ h0
        go_wp2
        refine bodyPost_ret (v := .tuple #[.agg #[.int .i64 ep, .int .i64 re, .int .i64 wr, .string by_], .int .i64 20]) (by simp [results, Tryz.results98, go_sem, o0, o1, o2, o3]) rfl ?_
        rw [he.out]
        exact ⟨rfl, D.out.fin _ _ _ _⟩
      have h0' : (wr == 0) = false := beq_eq_false_iff_ne.2 h0
      have hf := D.out.boxFree 2
      go_upto_region 11 with fail
      have D2 := Lib.hid (D.out.set 2 (.int .i64 (wr - 1)) ⟨ep, re, wr - 1, by_⟩ rfl)
      clear b0 b1 b2 b3 o0 o1 o2 o3 g0 g1 g2 g3 hf D h0'
      generalize w1.setCell ⟨w.heap.size, 2, none⟩ (.int .i64 (wr - 1)) = w2 at *
      obtain ⟨b0, b1, b2, b3⟩ := D2.out.cells
      obtain ⟨o0, o1, o2, o3⟩ := D2.out.outs
      obtain ⟨g0, g1, g2, g3⟩ := D2.out.free
      dsimp only at b0 b1 b2 b3
      by_cases h2 : re = 0
      · by_cases h3 : wr - 1 = 0
        · have he : Hid (rLeave true ⟨ep, re, wr, by_⟩ e = (zeroP, 0)) := hJ.out.trans (by simp [opLeave, rGone, h0, h2, h3])
          have h2' : (re == 0) = true := beq_iff_eq.2 h2
          have h3' : (wr - 1 == 0) = true := beq_iff_eq.2 h3
          clear hJ h0 h2 h3
          go_wp2
          refine bodyPost_ret (v := .tuple #[.agg #[.int .i64 0, .int .i64 0, .int .i64 0, .string ⟨#[]⟩], .int .i64 0]) (by simp [results, Tryz.results98, go_sem, o0, o1, o2, o3]) rfl ?_
          rw [he.out]
          exact ⟨rfl, D2.out.fin _ _ _ _⟩
        · have he : Hid (rLeave true ⟨ep, re, wr, by_⟩ e = (⟨ep, re, wr - 1, by_⟩, 0)) := hJ.out.trans (by simp [opLeave, rGone, h0, h2, h3])
          have h2' : (re == 0) = true := beq_iff_eq.2 h2
          have h3' : (wr - 1 == 0) = false := beq_eq_false_iff_ne.2 h3
          clear hJ h0 h2 h3
          go_wp2
          refine bodyPost_ret (v := .tuple #[.agg #[.int .i64 ep, .int .i64 (re), .int .i64 (wr - 1), .string by_], .int .i64 0]) (by simp [results, Tryz.results98, go_sem, o0, o1, o2, o3]) rfl ?_
          rw [he.out]
          exact ⟨rfl, D2.out.fin _ _ _ _⟩
      · have he : Hid (rLeave true ⟨ep, re, wr, by_⟩ e = (⟨ep, re, wr - 1, by_⟩, 0)) := hJ.out.trans (by simp [opLeave, rGone, h0, h2])
        have h2' : (re == 0) = false := beq_eq_false_iff_ne.2 h2
        clear hJ h0 h2
        go_wp2
        refine bodyPost_ret (v := .tuple #[.agg #[.int .i64 ep, .int .i64 (re), .int .i64 (wr - 1), .string by_], .int .i64 0]) (by simp [results, Tryz.results98, go_sem, o0, o1, o2, o3]) rfl ?_
        rw [he.out]
        exact ⟨rfl, D2.out.fin _ _ _ _⟩

end Go.Proofs.YtemmeopaihmlcaaGreatDoor

namespace Go.Proofs.YtemmeopaihmlcaaGreatDoor
open Go.RowKit
attribute [local go_sem ↓] Go.wp_at_zero Go.wp_at_succ

/-- What the reference's Read answers: the pipe, the bytes, the error. -/
def rRead (most : Int) (p : PipeT) (e : Int) : PipeT × ByteArray × Nat :=
  if isPB p e = false then (p, ⟨#[]⟩, 8) else if most < 0 then (p, ⟨#[]⟩, 2) else if most = 0 ∨ (p.bytes.size = 0 ∧ p.writers = 0) then (p, ⟨#[]⟩, 0) else if p.bytes.size = 0 then (p, ⟨#[]⟩, 19)
  else (⟨p.epoch, p.readers, p.writers, p.bytes.extract (min most.toNat p.bytes.size) p.bytes.size⟩, p.bytes.extract 0 (min most.toNat p.bytes.size), 0)
def RReadPost (w : World) (p : PipeT × ByteArray × Nat) (r : Ending) (w' : World) : Prop := r = .returned (.tuple #[pipeV p.1, .string p.2.1, .int .i64 p.2.2]) ∧ Below w.heap.size w w'

set_option maxRecDepth 100000 in
set_option maxHeartbeats 3200000 in
theorem rfRead_any (ep re wr : Int) (by_ : ByteArray) (e most : Int) (w : World) :
    Calls Tryz.prog 95 #[.agg #[.int .i64 ep, .int .i64 re, .int .i64 wr, .string by_], .int .i64 e, .int .i64 most] w (RReadPost w (rRead most ⟨ep, re, wr, by_⟩ e)) := by
  have HS := Lib.hid (RJ.start w ⟨ep, re, wr, by_⟩)
  unfold RReadPost pipeV
  dsimp only [pCells, zeroP] at HS
  obtain ⟨v, hv⟩ : ∃ v, isPB ⟨ep, re, wr, by_⟩ e = v := ⟨_, rfl⟩
  have Hv := Lib.hid hv; clear hv
  go_enter Tryz.func95, Tryz.ntmps95
  go_wp2_with fail
  refine (rfIs_is ep re wr by_ e v Hv.out _).mono ?_
  rintro r w1 ⟨rfl, hb⟩
  have D := Lib.hid (HS.out.later hb)
  clear hb HS
  obtain ⟨b0, b1, b2, b3⟩ := D.out.cells
  obtain ⟨o0, o1, o2, o3⟩ := D.out.outs
  obtain ⟨g0, g1, g2, g3⟩ := D.out.free
  dsimp only at b0 b1 b2 b3
  cases v with
  | false =>
    have he : Hid (rRead most ⟨ep, re, wr, by_⟩ e = (⟨ep, re, wr, by_⟩, ⟨#[]⟩, 8)) := if_pos Hv.out
    clear Hv
    go_wp2
    refine bodyPost_ret (v := .tuple #[.agg #[.int .i64 ep, .int .i64 re, .int .i64 wr, .string by_], .string ⟨#[]⟩, .int .i64 8]) (by simp [results, Tryz.results95, go_sem, o0, o1, o2, o3]) rfl ?_
    rw [he.out]
    exact ⟨rfl, D.out.fin _ _ _ _⟩
  | true =>
    obtain ⟨_, hre, hwr, hno, hby⟩ := checkP_ok (isPB_ok Hv.out).1
    dsimp only at hre hwr hno hby
    have Hno := Lib.hid hno; clear hno
    have hJ : Hid (rRead most ⟨ep, re, wr, by_⟩ e = if most < 0 then (⟨ep, re, wr, by_⟩, ⟨#[]⟩, 2) else if most = 0 ∨ (by_.size = 0 ∧ wr = 0) then (⟨ep, re, wr, by_⟩, ⟨#[]⟩, 0) else if by_.size = 0 then (⟨ep, re, wr, by_⟩, ⟨#[]⟩, 19)
      else (⟨ep, re, wr, by_.extract (min most.toNat by_.size) by_.size⟩, by_.extract 0 (min most.toNat by_.size), 0)) := if_neg (by rw [Hv.out]; simp)
    clear Hv
    by_cases h1 : most < 0
    · have he : Hid (rRead most ⟨ep, re, wr, by_⟩ e = (⟨ep, re, wr, by_⟩, ⟨#[]⟩, 2)) := hJ.out.trans (if_pos h1)
      have h1' : decide (most < 0) = true := decide_eq_true h1
      clear hJ h1
      go_wp2
      refine bodyPost_ret (v := .tuple #[.agg #[.int .i64 ep, .int .i64 re, .int .i64 wr, .string by_], .string ⟨#[]⟩, .int .i64 2]) (by simp [results, Tryz.results95, go_sem, o0, o1, o2, o3]) rfl ?_
      rw [he.out]
      exact ⟨rfl, D.out.fin _ _ _ _⟩
    have h1' : decide (most < 0) = false := decide_eq_false h1
    have hJ2 := Lib.hid (hJ.out.trans (if_neg h1)); clear hJ
    by_cases h2 : most = 0 ∨ (by_.size = 0 ∧ wr = 0)
    · have he := Lib.hid (hJ2.out.trans (if_pos h2))
      have hways : (most == 0) = true ∨ ((most == 0) = false ∧ by_.toList.isEmpty = true ∧ (wr == 0) = true) := by
        by_cases hm : most = 0
        · exact .inl (beq_iff_eq.2 hm)
        · rcases h2 with h2 | ⟨h2, h3⟩
          · exact absurd h2 hm
          · exact .inr ⟨beq_eq_false_iff_ne.2 hm, by rw [toList_empty]; simp [h2], beq_iff_eq.2 h3⟩
      clear hJ2 h2 h1
      rcases hways with h2 | ⟨h2, h3, h4⟩
      all_goals
        go_wp2
        refine bodyPost_ret (v := .tuple #[.agg #[.int .i64 ep, .int .i64 re, .int .i64 wr, .string by_], .string ⟨#[]⟩, .int .i64 0]) (by simp [results, Tryz.results95, go_sem, o0, o1, o2, o3]) rfl ?_
        rw [he.out]
        exact ⟨rfl, D.out.fin _ _ _ _⟩
    have hJ3 := Lib.hid (hJ2.out.trans (if_neg h2)); clear hJ2
    have hm0 : (most == 0) = false := beq_eq_false_iff_ne.2 (fun h => h2 (.inl h))
    by_cases h3 : by_.size = 0
    · have he := Lib.hid (hJ3.out.trans (if_pos h3))
      have h3' : by_.toList.isEmpty = true := by rw [toList_empty]; simp [h3]
      have h4' : (wr == 0) = false := beq_eq_false_iff_ne.2 (fun h => h2 (.inr ⟨h3, h⟩))
      clear hJ3 h2 h1 h3
      go_wp2
      refine bodyPost_ret (v := .tuple #[.agg #[.int .i64 ep, .int .i64 re, .int .i64 wr, .string by_], .string ⟨#[]⟩, .int .i64 19]) (by simp [results, Tryz.results95, go_sem, o0, o1, o2, o3]) rfl ?_
      rw [he.out]
      exact ⟨rfl, D.out.fin _ _ _ _⟩
    have hJ4 := Lib.hid (hJ3.out.trans (if_neg h3)); clear hJ3
    have h3' : by_.toList.isEmpty = false := by rw [toList_empty]; simp [h3]
    obtain ⟨mn, hmn⟩ := Int.eq_ofNat_of_zero_le (by omega : 0 ≤ most)
    subst hmn
    have hf := D.out.boxFree 3
    obtain ⟨n, hn⟩ : ∃ n, min (mn : Int).toNat by_.size = n := ⟨_, rfl⟩
    rw [hn] at hJ4
    have hn2 : (((by_.size : Int) < (mn : Int)) ∧ n = by_.size) ∨ (¬ ((by_.size : Int) < (mn : Int)) ∧ n = mn ∧ mn ≤ by_.size) := by
      by_cases h : (by_.size : Int) < (mn : Int)
      · exact .inl ⟨h, by omega⟩
      · exact .inr ⟨h, by omega, by omega⟩
    clear h1 h2 h3 hn
    rcases hn2 with ⟨hc, rfl⟩ | ⟨hc, rfl, hle⟩
    · have e1 : by_.extract by_.size by_.size = ByteArray.empty := by simp
      have e2 : by_.extract 0 by_.size = by_ := by simp
      rw [e1, e2] at hJ4
      clear e1 e2
      go_upto_region 12 with fail
      have D2 := Lib.hid (D.out.set 3 (.string ByteArray.empty) ⟨ep, re, wr, ByteArray.empty⟩ rfl)
      clear b0 b1 b2 b3 o0 o1 o2 o3 g0 g1 g2 g3 hf D
      generalize w1.setCell ⟨w.heap.size, 3, none⟩ (.string ByteArray.empty) = w2 at *
      obtain ⟨b0, b1, b2, b3⟩ := D2.out.cells
      obtain ⟨o0, o1, o2, o3⟩ := D2.out.outs
      obtain ⟨g0, g1, g2, g3⟩ := D2.out.free
      dsimp only at b0 b1 b2 b3
      go_wp2
      refine bodyPost_ret (v := .tuple #[.agg #[.int .i64 ep, .int .i64 re, .int .i64 wr, .string ByteArray.empty], .string by_, .int .i64 0]) (by simp [results, Tryz.results95, go_sem, o0, o1, o2, o3]) rfl ?_
      rw [hJ4.out]
      exact ⟨rfl, D2.out.fin _ _ _ _⟩
    · go_upto_region 12 with fail
      have D2 := Lib.hid (D.out.set 3 (.string (by_.extract n by_.size)) ⟨ep, re, wr, (by_.extract n by_.size)⟩ rfl)
      clear b0 b1 b2 b3 o0 o1 o2 o3 g0 g1 g2 g3 hf D
      generalize w1.setCell ⟨w.heap.size, 3, none⟩ (.string (by_.extract n by_.size)) = w2 at *
      obtain ⟨b0, b1, b2, b3⟩ := D2.out.cells
      obtain ⟨o0, o1, o2, o3⟩ := D2.out.outs
      obtain ⟨g0, g1, g2, g3⟩ := D2.out.free
      dsimp only at b0 b1 b2 b3
      go_wp2
      refine bodyPost_ret (v := .tuple #[.agg #[.int .i64 ep, .int .i64 re, .int .i64 wr, .string (by_.extract n by_.size)], .string (by_.extract 0 n), .int .i64 0]) (by simp [results, Tryz.results95, go_sem, o0, o1, o2, o3]) rfl ?_
      rw [hJ4.out]
      exact ⟨rfl, D2.out.fin _ _ _ _⟩
end Go.Proofs.YtemmeopaihmlcaaGreatDoor

namespace Go.Proofs.YtemmeopaihmlcaaGreatDoor
open Go.RowKit
attribute [local go_sem ↓] Go.wp_at_zero Go.wp_at_succ

/-- What the reference's Write answers: the pipe, the number of bytes, the error. -/
def rWrite (s : ByteArray) (p : PipeT) (e : Int) : PipeT × Nat × Nat :=
  if isPB p e = false then (p, 0, 8) else if s.size = 0 then (p, 0, 0) else if p.readers = 0 then (p, 0, 20) else if p.bytes.size = 256 then (p, 0, 19)
  else (⟨p.epoch, p.readers, p.writers, p.bytes ++ s.extract 0 (min s.size (256 - p.bytes.size))⟩, min s.size (256 - p.bytes.size), 0)
def RWritePost (w : World) (p : PipeT × Nat × Nat) (r : Ending) (w' : World) : Prop := r = .returned (.tuple #[pipeV p.1, .int .i64 p.2.1, .int .i64 p.2.2]) ∧ Below w.heap.size w w'

set_option maxRecDepth 100000 in
set_option maxHeartbeats 3200000 in
theorem rfWrite_any (ep re wr : Int) (by_ : ByteArray) (e : Int) (s : ByteArray) (_hs : s.size ≤ 9223372036854775807) (w : World) :
    Calls Tryz.prog 96 #[.agg #[.int .i64 ep, .int .i64 re, .int .i64 wr, .string by_], .int .i64 e, .string s] w (RWritePost w (rWrite s ⟨ep, re, wr, by_⟩ e)) := by
  have HS := Lib.hid (RJ.start w ⟨ep, re, wr, by_⟩)
  unfold RWritePost pipeV
  dsimp only [pCells, zeroP] at HS
  obtain ⟨v, hv⟩ : ∃ v, isPB ⟨ep, re, wr, by_⟩ e = v := ⟨_, rfl⟩
  have Hv := Lib.hid hv; clear hv
  go_enter Tryz.func96, Tryz.ntmps96
  go_wp2_with fail
  refine (rfIs_is ep re wr by_ e v Hv.out _).mono ?_
  rintro r w1 ⟨rfl, hb⟩
  have D := Lib.hid (HS.out.later hb)
  clear hb HS
  obtain ⟨b0, b1, b2, b3⟩ := D.out.cells
  obtain ⟨o0, o1, o2, o3⟩ := D.out.outs
  obtain ⟨g0, g1, g2, g3⟩ := D.out.free
  dsimp only at b0 b1 b2 b3
  cases v with
  | false =>
    have he : Hid (rWrite s ⟨ep, re, wr, by_⟩ e = (⟨ep, re, wr, by_⟩, 0, 8)) := if_pos Hv.out
    clear Hv
    go_wp2
    refine bodyPost_ret (v := .tuple #[.agg #[.int .i64 ep, .int .i64 re, .int .i64 wr, .string by_], .int .i64 0, .int .i64 8]) (by simp [results, Tryz.results96, go_sem, o0, o1, o2, o3]) rfl ?_
    rw [he.out]
    exact ⟨rfl, D.out.fin _ _ _ _⟩
  | true =>
    obtain ⟨_, hre, hwr, hno, hby⟩ := checkP_ok (isPB_ok Hv.out).1
    dsimp only at hre hwr hno hby
    have Hno := Lib.hid hno; clear hno
    have hJ : Hid (rWrite s ⟨ep, re, wr, by_⟩ e = if s.size = 0 then (⟨ep, re, wr, by_⟩, 0, 0) else if re = 0 then (⟨ep, re, wr, by_⟩, 0, 20) else if by_.size = 256 then (⟨ep, re, wr, by_⟩, 0, 19)
      else (⟨ep, re, wr, by_ ++ s.extract 0 (min s.size (256 - by_.size))⟩, min s.size (256 - by_.size), 0)) := if_neg (by rw [Hv.out]; simp)
    clear Hv
    by_cases h1 : s.size = 0
    · have he : Hid (rWrite s ⟨ep, re, wr, by_⟩ e = (⟨ep, re, wr, by_⟩, 0, 0)) := hJ.out.trans (if_pos h1)
      have h1' : s.toList.isEmpty = true := by rw [toList_empty]; simp [h1]
      clear hJ h1
      go_wp2
      refine bodyPost_ret (v := .tuple #[.agg #[.int .i64 ep, .int .i64 re, .int .i64 wr, .string by_], .int .i64 0, .int .i64 0]) (by simp [results, Tryz.results96, go_sem, o0, o1, o2, o3]) rfl ?_
      rw [he.out]
      exact ⟨rfl, D.out.fin _ _ _ _⟩
    have h1' : s.toList.isEmpty = false := by rw [toList_empty]; simp [h1]
    have hJ2 := Lib.hid (hJ.out.trans (if_neg h1)); clear hJ h1
    by_cases h2 : re = 0
    · have he := Lib.hid (hJ2.out.trans (if_pos h2))
      have h2' : (re == 0) = true := beq_iff_eq.2 h2
      clear hJ2 h2
      go_wp2
      refine bodyPost_ret (v := .tuple #[.agg #[.int .i64 ep, .int .i64 re, .int .i64 wr, .string by_], .int .i64 0, .int .i64 20]) (by simp [results, Tryz.results96, go_sem, o0, o1, o2, o3]) rfl ?_
      rw [he.out]
      exact ⟨rfl, D.out.fin _ _ _ _⟩
    have h2' : (re == 0) = false := beq_eq_false_iff_ne.2 h2
    have hJ3 := Lib.hid (hJ2.out.trans (if_neg h2)); clear hJ2 h2
    by_cases h3 : by_.size = 256
    · have he := Lib.hid (hJ3.out.trans (if_pos h3))
      have h3' : ((by_.size : Int) == 256) = true := beq_iff_eq.2 (by omega)
      clear hJ3 h3
      go_wp2
      refine bodyPost_ret (v := .tuple #[.agg #[.int .i64 ep, .int .i64 re, .int .i64 wr, .string by_], .int .i64 0, .int .i64 19]) (by simp [results, Tryz.results96, go_sem, o0, o1, o2, o3]) rfl ?_
      rw [he.out]
      exact ⟨rfl, D.out.fin _ _ _ _⟩
    have h3' : ((by_.size : Int) == 256) = false := beq_eq_false_iff_ne.2 (by omega)
    have hJ4 := Lib.hid (hJ3.out.trans (if_neg h3)); clear hJ3
    have hlt : by_.size < 256 := by omega
    have hf := D.out.boxFree 3
    obtain ⟨n, hn⟩ : ∃ n, min s.size (256 - by_.size) = n := ⟨_, rfl⟩
    rw [hn] at hJ4
    have hn2 : ((256 - (by_.size : Int) < (s.size : Int)) ∧ 256 - (by_.size : Int) = (n : Int) ∧ n ≤ s.size) ∨ (¬ (256 - (by_.size : Int) < (s.size : Int)) ∧ n = s.size) := by
      by_cases h : 256 - (by_.size : Int) < (s.size : Int)
      · exact .inl ⟨h, by omega, by omega⟩
      · exact .inr ⟨h, by omega⟩
    clear h3 hn
    rcases hn2 with ⟨hc, hn, hle⟩ | ⟨hc, rfl⟩
    · go_upto_region 10 with fail
      go_region
      all_goals
        have D2 := Lib.hid ((D.out.set 3 (.string (by_ ++ s.extract 0 n)) ⟨ep, re, wr, by_ ++ s.extract 0 n⟩ rfl).later (Below.refl _ _).drew)
        clear b0 b1 b2 b3 o0 o1 o2 o3 g0 g1 g2 g3 hf D
        generalize (w1.setCell ⟨w.heap.size, 3, none⟩ (.string (by_ ++ s.extract 0 n))).drew = w2 at *
        obtain ⟨b0, b1, b2, b3⟩ := D2.out.cells
        obtain ⟨o0, o1, o2, o3⟩ := D2.out.outs
        obtain ⟨g0, g1, g2, g3⟩ := D2.out.free
        dsimp only at b0 b1 b2 b3
        go_wp2
        refine bodyPost_ret (v := .tuple #[.agg #[.int .i64 ep, .int .i64 re, .int .i64 wr, .string (by_ ++ s.extract 0 n)], .int .i64 (n : Nat), .int .i64 0]) (by simp [results, Tryz.results96, go_sem, o0, o1, o2, o3]) rfl ?_
        rw [hJ4.out]
        exact ⟨rfl, D2.out.fin _ _ _ _⟩
    · have e1 : s.extract 0 s.size = s := by simp
      rw [e1] at hJ4
      clear e1
      go_upto_region 10 with fail
      go_region
      all_goals
        have D2 := Lib.hid ((D.out.set 3 (.string (by_ ++ s)) ⟨ep, re, wr, by_ ++ s⟩ rfl).later (Below.refl _ _).drew)
        clear b0 b1 b2 b3 o0 o1 o2 o3 g0 g1 g2 g3 hf D
        generalize (w1.setCell ⟨w.heap.size, 3, none⟩ (.string (by_ ++ s))).drew = w2 at *
        obtain ⟨b0, b1, b2, b3⟩ := D2.out.cells
        obtain ⟨o0, o1, o2, o3⟩ := D2.out.outs
        obtain ⟨g0, g1, g2, g3⟩ := D2.out.free
        dsimp only at b0 b1 b2 b3
        go_wp2
        refine bodyPost_ret (v := .tuple #[.agg #[.int .i64 ep, .int .i64 re, .int .i64 wr, .string (by_ ++ s)], .int .i64 (s.size : Nat), .int .i64 0]) (by simp [results, Tryz.results96, go_sem, o0, o1, o2, o3]) rfl ?_
        rw [hJ4.out]
        exact ⟨rfl, D2.out.fin _ _ _ _⟩
end Go.Proofs.YtemmeopaihmlcaaGreatDoor
