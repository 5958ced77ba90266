/- signal: Encode, of the program and of the law. signal: Decode. -/
import Derived.Test.YtpieaakdddgdeaaGreatDoorSigA
import Derived.Test.YtpieaakdddgdeaaGreatDoorPlainN
import Derived.Test.YtpieaakdddgdeaaGreatDoorViewB
import Derived.Lib.ConvBytes
namespace Go.Proofs.YtpieaakdddgdeaaGreatDoor
open Go.RowKit
attribute [local go_sem ↓] Go.wp_at_zero Go.wp_at_succ

theorem checkR_ok {r : RecT} (h : checkR r = 0) : (setB r.p = true ∧ setB r.b = true ∧ setB r.i = true ∧ r.h0 = 0) ∧ (∀ k, k < 8 → addrB (r.hs.getD k 0) = true) ∧ (hasB r.b 3 = false ∧ hasB r.i 3 = false ∧ r.h3 = 0) ∧ ∀ k, k < 8 → clashB r.i k (r.hs.getD k 0) = false := by
  unfold checkR at h
  by_cases h1 : setB r.p = false ∨ setB r.b = false ∨ setB r.i = false ∨ r.h0 ≠ 0
  · rw [if_pos h1] at h; cases h
  rw [if_neg h1] at h
  by_cases h2 : allH (fun _ x => addrB x) r.hs = false
  · rw [if_pos h2] at h; cases h
  rw [if_neg h2] at h
  by_cases h3 : hasB r.b 3 = true ∨ hasB r.i 3 = true ∨ r.h3 ≠ 0
  · rw [if_pos h3] at h; cases h
  rw [if_neg h3] at h
  by_cases h4 : allH (fun k x => !clashB r.i k x) r.hs = false
  · rw [if_pos h4] at h; cases h
  refine ⟨⟨?_, ?_, ?_, ?_⟩, fun k hk => ?_, ⟨?_, ?_, ?_⟩, fun k hk => ?_⟩
  · cases hx : setB r.p with
    | true => rfl
    | false => exact absurd (.inl hx) h1
  · cases hx : setB r.b with
    | true => rfl
    | false => exact absurd (.inr (.inl hx)) h1
  · cases hx : setB r.i with
    | true => rfl
    | false => exact absurd (.inr (.inr (.inl hx))) h1
  · exact Decidable.not_not.1 (fun hx => h1 (.inr (.inr (.inr hx))))
  · cases hx : addrB (r.hs.getD k 0) with
    | true => rfl
    | false => exact absurd (allH_false k hk hx) h2
  · cases hx : hasB r.b 3 with
    | false => rfl
    | true => exact absurd (.inl hx) h3
  · cases hx : hasB r.i 3 with
    | false => rfl
    | true => exact absurd (.inr (.inl hx)) h3
  · exact Decidable.not_not.1 (fun hx => h3 (.inr (.inr hx)))
  · cases hx : clashB r.i k (r.hs.getD k 0) with
    | false => rfl
    | true => exact absurd (allH_false k hk (by rw [hx]; rfl)) h4
theorem setB_ok {n : Int} (h : setB n = true) : 0 ≤ n ∧ n ≤ 254 := by
  simp only [setB, Bool.and_eq_true, decide_eq_true_eq] at h
  exact ⟨h.1.1, h.1.2⟩
theorem addrB_ok {n : Int} (h : addrB n = true) : 0 ≤ n ∧ n ≤ 4095 := by
  simp only [addrB, Bool.and_eq_true, decide_eq_true_eq] at h
  exact h

/-- The encoding. -/
def numsB (l : List Int) : List UInt8 := l.flatMap fun x => natBytes x.toNat
def headR (r : RecT) : List UInt8 := [] ++ natBytes r.p.toNat ++ natBytes r.b.toNat ++ natBytes r.i.toNat
def encRB (r : RecT) : List UInt8 := headR r ++ numsB r.hs
def encR (r : RecT) : ByteArray × Nat := if checkR r = 0 then (strOf (encRB r), 0) else (⟨#[]⟩, checkR r)
theorem numsB_snoc (l : List Int) (k : Nat) (hk : k < l.length) : numsB (l.take (k + 1)) = numsB (l.take k) ++ natBytes (l.getD k 0).toNat := by
  rw [List.take_succ_eq_append_getElem hk, List.getD_eq_getElem?_getD, List.getElem?_eq_getElem hk]
  simp only [numsB, List.flatMap_append, List.flatMap_cons, List.flatMap_nil, List.append_nil, Option.getD_some]
theorem numsB_length (l : List Int) : (numsB l).length ≤ l.length * 10 := by
  induction l with
  | nil => simp [numsB]
  | cons x r ih =>
    have h2 := natBytes_length x.toNat
    simp only [numsB, List.flatMap_cons, List.length_append, List.length_cons] at *
    omega
theorem headR_length (r : RecT) : (headR r).length ≤ 30 := by
  have h1 := natBytes_length r.p.toNat
  have h2 := natBytes_length r.b.toNat
  have h3 := natBytes_length r.i.toNat
  simp only [headR, List.nil_append, List.length_append]
  omega
theorem hs_length (r : RecT) : r.hs.length = 8 := rfl
theorem encRB_length (r : RecT) : (encRB r).length ≤ 110 := by
  have h1 := headR_length r
  have h2 := numsB_length r.hs
  rw [hs_length] at h2
  simp only [encRB, List.length_append]
  omega
theorem encRB_ne (r : RecT) : encRB r ≠ [] := by
  intro h
  have := natBytes_ne r.p.toNat
  simp [encRB, headR] at h
  exact this h.1

set_option maxRecDepth 100000 in
set_option maxHeartbeats 4000000 in
theorem rEncode_any (p b i h0 h1 h2 h3 h4 h5 h6 h7 : Int) (w : World) : Calls Tryz.prog 110 #[.agg #[.int .i64 p, .int .i64 b, .int .i64 i, .int .i64 h0, .int .i64 h1, .int .i64 h2, .int .i64 h3, .int .i64 h4, .int .i64 h5, .int .i64 h6, .int .i64 h7]] w fun r w' => r = .returned (.tuple #[.string (encR ⟨p, b, i, h0, h1, h2, h3, h4, h5, h6, h7⟩).1, .int .i64 (encR ⟨p, b, i, h0, h1, h2, h3, h4, h5, h6, h7⟩).2]) ∧ Below w.heap.size w w' := by
  have Hbx : Hid (∀ v t, Below w.heap.size w (w.alloc (.cells v t))) := fun v t => (Below.refl _ _).alloc (Nat.le_refl _) _
  go_enter Tryz.func110, Tryz.ntmps110
  go_wp2_with fail
  refine (recCheck_any p b i h0 h1 h2 h3 h4 h5 h6 h7 _).mono ?_
  rintro e w1 ⟨rfl, hb1⟩
  have hqc : ∀ j, w1.cell? ⟨w.heap.size, j, none⟩ = (rCells ⟨p, b, i, h0, h1, h2, h3, h4, h5, h6, h7⟩)[j]? := fun j => ((bcell hb1).1 _ _ (by simp)).trans (cell_of_heap (World.alloc_heap_new w _) j)
  have Hb1 : Hid (Below w.heap.size w w1) := (Hbx.out _ _).trans (hb1.mono (by simp))
  have hsz1 : w.heap.size < w1.heap.size := by have := hb1.size; simp at this; omega
  clear hb1
  generalize hq : checkR ⟨p, b, i, h0, h1, h2, h3, h4, h5, h6, h7⟩ = q at *
  have Hq := Lib.hid hq; clear hq
  by_cases h0' : q = 0
  · obtain ⟨⟨sp, sb, si, -⟩, ha, -, -⟩ := checkR_ok (Hq.out.trans h0')
    have hp := setB_ok sp
    have hb := setB_ok sb
    have hi := setB_ok si
    dsimp only at hp hb hi
    clear sp sb si
    have Ha := Lib.hid ha; clear ha
    subst h0'
    have he : Hid (encR ⟨p, b, i, h0, h1, h2, h3, h4, h5, h6, h7⟩ = (strOf (encRB ⟨p, b, i, h0, h1, h2, h3, h4, h5, h6, h7⟩), 0)) := if_pos Hq.out
    go_wp2_with fail
    refine (newWriter_any _).mono ?_
    rintro e w2 ⟨rfl, rfl⟩
    have Hwr := Lib.hid (wr_box (w := w1))
    have hB0 : Below w1.heap.size w1 (w1.alloc (.cells #[.slice none 0 0, .int .i64 0] 238)) := (Below.refl _ _).alloc (Nat.le_refl _) _
    generalize w1.alloc (.cells #[.slice none 0 0, .int .i64 0] 238) = w2 at *
    have hc0 : w2.cell? ⟨w.heap.size, 0, none⟩ = some (.int .i64 p) := ((bcell hB0).1 _ _ hsz1).trans (hqc 0)
    have HB2 := Lib.hid hB0; clear hB0
    have Hqc := Lib.hid hqc; clear hqc
    go_wp2_with fail
    refine (number_any w1.heap.size w1.heap.size [] p _ hp.1 (by omega) (by simp) HB2.out.size Hwr.out).mono ?_
    rintro e w3 ⟨rfl, hwr, hb⟩
    have HB3 : Hid (Below w1.heap.size w1 w3) := HB2.out.trans hb
    clear HB2 Hwr hc0 hb
    have Hwr := Lib.hid hwr; clear hwr
    have hc1 : w3.cell? ⟨w.heap.size, 1, none⟩ = some (.int .i64 b) := ((bcell HB3.out).1 _ _ hsz1).trans (Hqc.out 1)
    have hl3 : Hid (([] ++ natBytes p.toNat).length ≤ 10) := by
      show _ ≤ _
      simpa using natBytes_length p.toNat
    go_wp2_with fail
    refine (number_any w1.heap.size w1.heap.size _ b _ (by omega) (by omega) (by have := hl3.out; omega) HB3.out.size Hwr.out).mono ?_
    rintro e w4 ⟨rfl, hwr, hb⟩
    have HB4 : Hid (Below w1.heap.size w1 w4) := HB3.out.trans hb
    clear HB3 Hwr hc1 hb
    have Hwr := Lib.hid hwr; clear hwr
    have hc2 : w4.cell? ⟨w.heap.size, 2, none⟩ = some (.int .i64 i) := ((bcell HB4.out).1 _ _ hsz1).trans (Hqc.out 2)
    have hl4 : Hid (([] ++ natBytes p.toNat ++ natBytes b.toNat).length ≤ 20) := by
      show _ ≤ _
      have h1 := hl3.out
      have h2 := natBytes_length b.toNat
      rw [List.length_append]
      omega
    go_wp2_with fail
    refine (number_any w1.heap.size w1.heap.size _ i _ hi.1 (by omega) (by have := hl4.out; omega) HB4.out.size Hwr.out).mono ?_
    rintro e w5 ⟨rfl, hwr, hb⟩
    have HB5 : Hid (Below w1.heap.size w1 w5) := HB4.out.trans hb
    clear HB4 Hwr hc2 hb hl3 hl4
    have hhead : [] ++ natBytes p.toNat ++ natBytes b.toNat ++ natBytes i.toNat = headR ⟨p, b, i, h0, h1, h2, h3, h4, h5, h6, h7⟩ := rfl
    rw [hhead] at hwr
    clear hhead
    have Hwr := Lib.hid hwr; clear hwr
    have k0 : w5.cell? ⟨w.heap.size, 3, none⟩ = some (.int .i64 h0) := ((bcell HB5.out).1 _ _ hsz1).trans (Hqc.out 3)
    have k1 : w5.cell? ⟨w.heap.size, 4, none⟩ = some (.int .i64 h1) := ((bcell HB5.out).1 _ _ hsz1).trans (Hqc.out 4)
    have k2 : w5.cell? ⟨w.heap.size, 5, none⟩ = some (.int .i64 h2) := ((bcell HB5.out).1 _ _ hsz1).trans (Hqc.out 5)
    have k3 : w5.cell? ⟨w.heap.size, 6, none⟩ = some (.int .i64 h3) := ((bcell HB5.out).1 _ _ hsz1).trans (Hqc.out 6)
    have k4 : w5.cell? ⟨w.heap.size, 7, none⟩ = some (.int .i64 h4) := ((bcell HB5.out).1 _ _ hsz1).trans (Hqc.out 7)
    have k5 : w5.cell? ⟨w.heap.size, 8, none⟩ = some (.int .i64 h5) := ((bcell HB5.out).1 _ _ hsz1).trans (Hqc.out 8)
    have k6 : w5.cell? ⟨w.heap.size, 9, none⟩ = some (.int .i64 h6) := ((bcell HB5.out).1 _ _ hsz1).trans (Hqc.out 9)
    have k7 : w5.cell? ⟨w.heap.size, 10, none⟩ = some (.int .i64 h7) := ((bcell HB5.out).1 _ _ hsz1).trans (Hqc.out 10)
    go_wp2
    clear k0 k1 k2 k3 k4 k5 k6 k7
    have HIx : Hid (∀ n : Nat, n < 8 → ∀ W, (Instr.index 28 (.agg #[.int .i64 h0, .int .i64 h1, .int .i64 h2, .int .i64 h3, .int .i64 h4, .int .i64 h5, .int .i64 h6, .int .i64 h7]) (.int .i64 n)).run Tryz.prog W = .ok (.int .i64 ((RecT.mk p b i h0 h1 h2 h3 h4 h5 h6 h7).hs.getD n 0)) W) := fun n hn W => run_index8 ⟨p, b, i, h0, h1, h2, h3, h4, h5, h6, h7⟩ n hn W
    obtain ⟨R, hR⟩ : ∃ R : RecT, RecT.mk p b i h0 h1 h2 h3 h4 h5 h6 h7 = R := ⟨_, rfl⟩
    rw [hR] at HIx Ha Hwr Hq
    have HR := Lib.hid hR; clear hR
    go_loopw [30] (fun i wr => ∃ k : Nat, k ≤ 8 ∧ i = .int .i64 k ∧ Hid (Wr w1.heap.size w1.heap.size wr (headR R ++ numsB (R.hs.take k))) ∧ Hid (Below w1.heap.size w1 wr)) (fun i _ => 8 - (intOf i).toNat)
    case atStart => exact ⟨0, by omega, rfl, by show Wr _ _ _ _; simpa [numsB] using Hwr.out, HB5.out⟩
    case round =>
      obtain ⟨k, hk, rfl, HW, HB⟩ := hrel
      clear HB5 Hwr
      by_cases h4' : k < 8
      · have hix := HIx.out k h4'
        have Hsn := Lib.hid (numsB_snoc R.hs k h4')
        have hx := addrB_ok (Ha.out k h4')
        have hll : Hid ((headR R ++ numsB (R.hs.take k)).length ≤ 1000) := by
          show _ ≤ _
          have h1 := headR_length R
          have h2 := numsB_length (R.hs.take k)
          have h3 : (R.hs.take k).length ≤ k := by simp; omega
          rw [List.length_append]
          omega
        generalize R.hs.getD k 0 = x at *
        go_wp2_with fail
        refine (number_any w1.heap.size w1.heap.size _ x _ hx.1 (by omega) (by have := hll.out; omega) HB.out.size HW.out).mono ?_
        rintro e w7 ⟨rfl, hwr, hb⟩
        have HWn := Lib.hid hwr; clear hwr
        have HB7 : Hid (Below w1.heap.size w1 w7) := HB.out.trans hb
        clear hb
        go_wp2
        go_roundw
        case rel =>
          refine ⟨k + 1, by omega, by go_num, ?_, HB7.out⟩
          show Wr _ _ _ _
          rw [Hsn.out, ← List.append_assoc]
          exact HWn.out
        case measure => simp [intOf]; omega
      · obtain rfl : k = 8 := by omega
        have hfull : Hid (headR R ++ numsB (R.hs.take 8) = encRB R) := rfl
        have hll : Hid ((encRB R).length ≤ 35184372088832) := Nat.le_trans (encRB_length R) (by decide)
        have hwr := HW.out
        rw [hfull.out] at hwr
        have HWn := Lib.hid hwr; clear hwr HW
        go_wp2_with fail
        refine (bytes_any w1.heap.size w1.heap.size _ _ hll.out HWn.out).mono ?_
        rintro e w7 ⟨v, rfl, hrow, hb, hform⟩
        rcases hform with rfl | ⟨g2, n2, c2, rfl, hg2⟩
        · exfalso
          rcases hrow.2 with ⟨_, h⟩ | ⟨g', cap', cur, h0, _⟩
          · exact encRB_ne R (by simpa using h)
          · cases h0
        · have hconv := run_bytes_str w7 g2 0 n2 c2 _ hrow.sl.1
          have Hfin : Hid (Below w.heap.size w w7) := (Hb1.out.trans (HB.out.mono (by omega))).trans (hb.mono (by have := HB.out.size; omega))
          clear hrow hb HB HWn
          go_wp2
          go_ret2
          rw [he.out, HR.out]
          exact ⟨rfl, Hfin.out⟩
  · have he : Hid (encR ⟨p, b, i, h0, h1, h2, h3, h4, h5, h6, h7⟩ = (⟨#[]⟩, q)) := by show _ = _; unfold encR; rw [Hq.out, if_neg h0']
    have h0'' : ((q : Int) != 0) = true := bne_iff_ne.2 (by omega)
    clear h0'
    go_wp2
    go_ret2
    rw [he.out]
    exact ⟨rfl, Hb1.out⟩

end Go.Proofs.YtpieaakdddgdeaaGreatDoor

namespace Go.Proofs.YtpieaakdddgdeaaGreatDoor
open Go.RowKit
attribute [local go_sem ↓] Go.wp_at_zero Go.wp_at_succ

def sr1 (bs : List UInt8) := rdNum 254 ⟨bs, 0⟩
def sr2 (bs : List UInt8) := rdNum 254 (sr1 bs).2
def sr3 (bs : List UInt8) := rdNum 254 (sr2 bs).2
def srH (s : RdS) : Nat → RdS
  | 0 => s
  | k + 1 => (rdNum 4095 (srH s k)).2
def srV (bs : List UInt8) (k : Nat) : Int := (rdNum 4095 (srH (sr3 bs).2 k)).1
/-- The record of which k handlers are read. -/
def recAt (bs : List UInt8) (k : Nat) : RecT :=
  ⟨(sr1 bs).1, (sr2 bs).1, (sr3 bs).1, if 0 < k then srV bs 0 else 0, if 1 < k then srV bs 1 else 0, if 2 < k then srV bs 2 else 0, if 3 < k then srV bs 3 else 0, if 4 < k then srV bs 4 else 0, if 5 < k then srV bs 5 else 0, if 6 < k then srV bs 6 else 0, if 7 < k then srV bs 7 else 0⟩
theorem recAt_step (bs : List UInt8) (k : Nat) (hk : k < 8) : (rCells (recAt bs k)).setIfInBounds (3 + k) (.int .i64 (srV bs k)) = rCells (recAt bs (k + 1)) := by
  rcases (by omega : k = 0 ∨ k = 1 ∨ k = 2 ∨ k = 3 ∨ k = 4 ∨ k = 5 ∨ k = 6 ∨ k = 7) with rfl | rfl | rfl | rfl | rfl | rfl | rfl | rfl <;> rfl
def recOf (bs : List UInt8) : RecT := recAt bs 8
/-- What Decode answers. -/
def decR (s : ByteArray) : RecT × Nat :=
  if rdClose (srH (sr3 s.data.toList).2 8) ≠ 0 then (zeroR, rdClose (srH (sr3 s.data.toList).2 8))
  else if checkR (recOf s.data.toList) ≠ 0 then (zeroR, checkR (recOf s.data.toList))
  else (recOf s.data.toList, 0)

theorem sRd_grown {S : Nat → Prop} {b : Nat} {w w' : World} {s : RdS} {row : Option Nat} (h : Rd S b w s) (hb : w.grownBy w' row) (hr : ∀ k, row = some k → ¬ S k) : Rd S b w' s := by
  obtain ⟨hBb, g, off, n, c, p, hh, hsl, hnc, hBg, hgb, hlen⟩ := h
  have hg : n = 0 ∨ g < w.heap.size := by
    rcases Nat.eq_zero_or_pos n with h0 | h0
    · exact .inl h0
    · exact .inr (World.block_lt_of_cell? w _ (hsl.2 0 h0))
  refine ⟨hBb, g, off, n, c, p, (hb.block b (lt_of_heap hh) (fun e => hr b e.symm hBb)).trans hh, ?_, hnc, hBg, hgb, hlen⟩
  rcases hg with rfl | hg
  · exact ⟨hsl.1, fun j hj => by omega⟩
  · exact hsl.kept (hb.block g hg (fun e => hr g e.symm hBg))
theorem sBelow_row {B : Nat} {w w1 w2 : World} {row : Option Nat} (h : Below B w w1) (hg : w1.grownBy w2 row) (hB : B ≤ w.heap.size) (hr : ∀ k, row = some k → B ≤ k) : Below B w w2 :=
  ⟨hg.os.trans h.os, hg.tape.trans h.tape, hg.output.trans h.output, Nat.le_trans h.size hg.size, fun k hk => (hg.block k (Nat.lt_of_lt_of_le hk (Nat.le_trans hB h.size)) (fun e => by have := hr k e.symm; omega)).trans (h.block k hk)⟩
theorem sBytes_below (w : World) (e : TypeId) (s : ByteArray) : Below w.heap.size w (Lib.bytesWorld w e s) :=
  ⟨rfl, rfl, rfl, by rw [Lib.bytesWorld_size]; omega, fun k hk => Lib.bytesWorld_at_old w e s k hk⟩
def SrS (L T k : Nat) : Prop := L ≤ k ∧ k < T
/-- In the midst of Decode. -/
structure SDec (wa : World) (L T b : Nat) (wr : World) (r : RecT) (s : RdS) : Prop where
  heap : wr.heap[T]? = some (.cells (rCells r) 30 (0, 0))
  rd : Rd (SrS L T) b wr s
  below : Below L wa wr
  low : L ≤ T
  wlow : L ≤ wa.heap.size
section
variable {wa : World} {L T b : Nat} {wr w1 : World} {r : RecT} {s s' : RdS}
theorem SDec.read (h : SDec wa L T b wr r s) (hr : Rd (SrS L T) b w1 s') (hg : wr.grownBy w1 (some b)) : SDec wa L T b w1 r s' where
  heap := (hg.block T (lt_of_heap h.heap) (fun e => by cases e; exact absurd hr.1.2 (Nat.lt_irrefl _))).trans h.heap
  rd := hr
  below := sBelow_row h.below hg h.wlow (fun k hk => by cases hk; exact hr.1.1)
  low := h.low
  wlow := h.wlow
theorem SDec.store (h : SDec wa L T b wr r s) (i : Nat) (v : Value) (r' : RecT) (he : (rCells r).setIfInBounds i v = rCells r') : SDec wa L T b (wr.setCell ⟨T, i, none⟩ v) r' s where
  heap := by rw [heap_setCell_same h.heap, he]
  rd := sRd_grown h.rd (grown_setCell _ _ _ _) (fun k hk e => by cases hk; exact absurd e.2 (Nat.lt_irrefl _))
  below := h.below.setCell h.low _
  low := h.low
  wlow := h.wlow
theorem SDec.cell (h : SDec wa L T b wr r s) (j : Nat) : wr.cell? ⟨T, j, none⟩ = (rCells r)[j]? := cell_of_heap h.heap j
theorem SDec.free (h : SDec wa L T b wr r s) (j : Nat) : wr.frozen? ⟨T, j, none⟩ = false := frozen_of_heap h.heap j
end
def recV (r : RecT) : Value := .agg (rCells r)
/-- What Decode leaves. -/
def RecPost (w : World) (p : RecT × Nat) (r : Ending) (w' : World) : Prop := r = .returned (.tuple #[recV p.1, .int .i64 p.2]) ∧ Below w.heap.size w w'

/-- The eleven cells of a record at a block. -/
structure At11 (w : World) (B : Nat) (r : RecT) : Prop where
  c0 : w.cell? ⟨B, 0, none⟩ = some (.int .i64 r.p)
  c1 : w.cell? ⟨B, 1, none⟩ = some (.int .i64 r.b)
  c2 : w.cell? ⟨B, 2, none⟩ = some (.int .i64 r.i)
  c3 : w.cell? ⟨B, 3, none⟩ = some (.int .i64 r.h0)
  c4 : w.cell? ⟨B, 4, none⟩ = some (.int .i64 r.h1)
  c5 : w.cell? ⟨B, 5, none⟩ = some (.int .i64 r.h2)
  c6 : w.cell? ⟨B, 6, none⟩ = some (.int .i64 r.h3)
  c7 : w.cell? ⟨B, 7, none⟩ = some (.int .i64 r.h4)
  c8 : w.cell? ⟨B, 8, none⟩ = some (.int .i64 r.h5)
  c9 : w.cell? ⟨B, 9, none⟩ = some (.int .i64 r.h6)
  c10 : w.cell? ⟨B, 10, none⟩ = some (.int .i64 r.h7)
theorem at11 {w : World} {B : Nat} {r : RecT} {T : TypeId} (h : w.heap[B]? = some (.cells (rCells r) T (0, 0))) : At11 w B r :=
  ⟨cell_of_heap h 0, cell_of_heap h 1, cell_of_heap h 2, cell_of_heap h 3, cell_of_heap h 4, cell_of_heap h 5, cell_of_heap h 6, cell_of_heap h 7, cell_of_heap h 8, cell_of_heap h 9, cell_of_heap h 10⟩
theorem free11 {w : World} {B : Nat} {r : RecT} {T : TypeId} (h : w.heap[B]? = some (.cells (rCells r) T (0, 0))) : w.frozen? ⟨B, 0, none⟩ = false ∧ w.frozen? ⟨B, 1, none⟩ = false ∧ w.frozen? ⟨B, 2, none⟩ = false ∧ w.frozen? ⟨B, 3, none⟩ = false ∧ w.frozen? ⟨B, 4, none⟩ = false ∧ w.frozen? ⟨B, 5, none⟩ = false ∧ w.frozen? ⟨B, 6, none⟩ = false ∧ w.frozen? ⟨B, 7, none⟩ = false ∧ w.frozen? ⟨B, 8, none⟩ = false ∧ w.frozen? ⟨B, 9, none⟩ = false ∧ w.frozen? ⟨B, 10, none⟩ = false :=
  ⟨frozen_of_heap h 0, frozen_of_heap h 1, frozen_of_heap h 2, frozen_of_heap h 3, frozen_of_heap h 4, frozen_of_heap h 5, frozen_of_heap h 6, frozen_of_heap h 7, frozen_of_heap h 8, frozen_of_heap h 9, frozen_of_heap h 10⟩

/-- The bytes of a text, as Decode lays them. -/
theorem rec_src (w : World) (s : ByteArray) (o : Obj) : BSrc (Lib.bytesWorld (w.alloc o) 5 s) (.slice (some ⟨w.heap.size + 1, 0, none⟩) s.size (grownCap (w.alloc o) s.size 0 5)) s.data.toList := by
  refine .inr ⟨_, _, _, rfl, (size_toList s).symm, fun j u hu => ?_⟩
  have hj : j < s.size := by
    rw [← size_toList]
    rcases Nat.lt_or_ge j s.data.toList.length with h | h
    · exact h
    · rw [List.getElem?_eq_none (by simpa using h)] at hu; cases hu
  have hadd : (⟨w.heap.size + 1, 0, none⟩ : Addr).add j = ⟨w.heap.size + 1, j, none⟩ := by unfold Addr.add; split <;> simp_all
  rw [hadd]
  have := Lib.bytesWorld_cell (w.alloc o) 5 s j hj
  rw [World.size_alloc] at this
  rw [this, ← hu]
  have hj' : j < s.data.toList.length := by rw [size_toList]; exact hj
  simp only [List.getElem?_map, List.getElem?_eq_getElem hj', Option.map_some, byteV, List.getD_eq_getElem?_getD, Option.getD_some]

/-- A record stored into its block. -/
def set11 (w : World) (X : Nat) (v0 v1 v2 v3 v4 v5 v6 v7 v8 v9 v10 : Value) : World := (((((((((((w.setCell ⟨X, 0, none⟩ v0).setCell ⟨X, 1, none⟩ v1).setCell ⟨X, 2, none⟩ v2).setCell ⟨X, 3, none⟩ v3).setCell ⟨X, 4, none⟩ v4).setCell ⟨X, 5, none⟩ v5).setCell ⟨X, 6, none⟩ v6).setCell ⟨X, 7, none⟩ v7).setCell ⟨X, 8, none⟩ v8).setCell ⟨X, 9, none⟩ v9).setCell ⟨X, 10, none⟩ v10)
theorem set11_heap {w : World} {X : Nat} {r : RecT} {T : TypeId} (h : w.heap[X]? = some (.cells (rCells r) T (0, 0))) (v0 v1 v2 v3 v4 v5 v6 v7 v8 v9 v10 : Value) :
    (set11 w X v0 v1 v2 v3 v4 v5 v6 v7 v8 v9 v10).heap[X]? = some (.cells #[v0, v1, v2, v3, v4, v5, v6, v7, v8, v9, v10] T (0, 0)) := by
  unfold set11
  rw [heap_setCell_same (heap_setCell_same (heap_setCell_same (heap_setCell_same (heap_setCell_same (heap_setCell_same (heap_setCell_same (heap_setCell_same (heap_setCell_same (heap_setCell_same (heap_setCell_same h 0 v0) 1 v1) 2 v2) 3 v3) 4 v4) 5 v5) 6 v6) 7 v7) 8 v8) 9 v9) 10 v10]
  simp [rCells]
theorem set11_grown (w : World) (X : Nat) (v0 v1 v2 v3 v4 v5 v6 v7 v8 v9 v10 : Value) : w.grownBy (set11 w X v0 v1 v2 v3 v4 v5 v6 v7 v8 v9 v10) (some X) := by
  unfold set11
  iterate 10 refine grown_trans ?_ (grown_setCell _ _ _ _)
  exact grown_setCell _ _ _ _

def zObj : Obj := .cells #[.int .i64 0, .int .i64 0, .int .i64 0, .int .i64 0, .int .i64 0, .int .i64 0, .int .i64 0, .int .i64 0, .int .i64 0, .int .i64 0, .int .i64 0] 30

set_option maxRecDepth 100000 in
set_option maxHeartbeats 4000000 in
theorem rDecode_any (s : ByteArray) (w : World) (hs2 : s.size ≤ 35184372088832) : Calls Tryz.prog 48 #[.string s] w (RecPost w (decR s)) := by
  have hconv := Lib.run_convert_string_bytes (P := Tryz.prog) (w.alloc zObj) 9 117 5 s Tryz.underlying9 Tryz.underlying117 Tryz.underlying5
  have hR : (w.alloc zObj).heap[w.heap.size]? = some (.cells (rCells zeroR) 30 (0, 0)) := World.alloc_heap_new w _
  have hbw := sBytes_below (w.alloc zObj) 5 s
  have hsrc := rec_src w s zObj
  rw [World.size_alloc] at hconv
  have hRb := (hbw.block w.heap.size (by simp)).trans hR
  have Hwb : Hid (Below w.heap.size w (Lib.bytesWorld (w.alloc zObj) 5 s)) := ((Below.refl _ _).alloc (Nat.le_refl _) _).trans (hbw.mono (by simp))
  have hwsz : w.heap.size < (Lib.bytesWorld (w.alloc zObj) 5 s).heap.size := by rw [Lib.bytesWorld_size]; simp; omega
  have Hsrc := Lib.hid hsrc; clear hsrc hbw hR
  have HRb := Lib.hid hRb; clear hRb
  have Hlen : Hid (s.data.toList.length ≤ 35184372088832) := by show _ ≤ _; rw [size_toList]; exact hs2
  clear hs2
  unfold zObj at *
  go_enter Tryz.func48, Tryz.ntmps48
  go_wp2_with fail
  generalize Lib.bytesWorld (w.alloc (.cells #[.int .i64 0, .int .i64 0, .int .i64 0, .int .i64 0, .int .i64 0, .int .i64 0, .int .i64 0, .int .i64 0, .int .i64 0, .int .i64 0, .int .i64 0] 30)) 5 s = wb at *
  refine (newReader_any _ s.data.toList _ Hlen.out Hsrc.out (by simp)).mono ?_
  rintro e w1 ⟨b, rfl, hrd, hb1⟩
  clear hconv Hsrc
  have D0 : Hid (SDec wb wb.heap.size w1.heap.size b (w1.alloc (.cells #[.int .i64 0, .int .i64 0, .int .i64 0, .int .i64 0, .int .i64 0, .int .i64 0, .int .i64 0, .int .i64 0, .int .i64 0, .int .i64 0, .int .i64 0] 30)) zeroR ⟨s.data.toList, 0⟩) :=
    ⟨heap_alloc_new w1 _, Rd.later hrd ((Below.refl _ _).alloc (Nat.le_refl _) _), hb1.alloc hb1.size _, hb1.size, Nat.le_refl _⟩
  clear hrd hb1
  generalize hbs : s.data.toList = bs at *
  have Hbs := Lib.hid hbs; clear hbs
  go_wp2_with fail
  refine (rNumber_any _ b 254 _ _ D0.out.rd).mono ?_
  rintro e w2 ⟨rfl, hr, hg⟩
  have D1 := Lib.hid (D0.out.read hr hg); clear hr hg D0
  have c0 : w2.cell? ⟨w1.heap.size, 0, none⟩ = some (.int .i64 0) := D1.out.cell 0
  have f0 := D1.out.free 0
  have e1 : rdNum 254 ⟨bs, 0⟩ = sr1 bs := rfl
  rw [e1] at D1
  rw [e1]
  clear e1
  have D1' := Lib.hid (D1.out.store 0 (.int .i64 (sr1 bs).1) ⟨(sr1 bs).1, 0, 0, 0, 0, 0, 0, 0, 0, 0, 0⟩ rfl)
  clear D1
  go_wp2_with fail
  refine (rNumber_any _ b 254 _ _ D1'.out.rd).mono ?_
  rintro e w3 ⟨rfl, hr, hg⟩
  have D2 := Lib.hid (D1'.out.read hr hg); clear hr hg D1' c0 f0
  have c1 : w3.cell? ⟨w1.heap.size, 1, none⟩ = some (.int .i64 0) := D2.out.cell 1
  have f1 := D2.out.free 1
  have e2 : rdNum 254 (sr1 bs).2 = sr2 bs := rfl
  rw [e2] at D2
  rw [e2]
  clear e2
  have D2' := Lib.hid (D2.out.store 1 (.int .i64 (sr2 bs).1) ⟨(sr1 bs).1, (sr2 bs).1, 0, 0, 0, 0, 0, 0, 0, 0, 0⟩ rfl)
  clear D2
  go_wp2_with fail
  refine (rNumber_any _ b 254 _ _ D2'.out.rd).mono ?_
  rintro e w4 ⟨rfl, hr, hg⟩
  have D3 := Lib.hid (D2'.out.read hr hg); clear hr hg D2' c1 f1
  have c2 : w4.cell? ⟨w1.heap.size, 2, none⟩ = some (.int .i64 0) := D3.out.cell 2
  have f2 := D3.out.free 2
  have e3 : rdNum 254 (sr2 bs).2 = sr3 bs := rfl
  rw [e3] at D3
  rw [e3]
  clear e3
  have D3' : Hid (SDec _ _ _ _ _ (recAt bs 0) (srH (sr3 bs).2 0)) := D3.out.store 2 (.int .i64 (sr3 bs).1) (recAt bs 0) rfl
  clear D3
  have HT : Hid (wb.heap.size ≤ w1.heap.size) := D3'.out.low
  go_wp2
  clear c2 f2
  generalize w4.setCell ⟨w1.heap.size, 2, none⟩ (.int .i64 (sr3 bs).1) = w5 at *
  generalize w1.heap.size = T at *
  go_loopw [21] (fun i wr => ∃ k : Nat, k ≤ 8 ∧ i = .int .i64 k ∧ Hid (SDec wb wb.heap.size T b wr (recAt bs k) (srH (sr3 bs).2 k))) (fun i _ => 8 - (intOf i).toNat)
  case atStart => exact ⟨0, by omega, rfl, D3'.out⟩
  case round =>
    obtain ⟨k, hk, rfl, HD⟩ := hrel
    clear D3'
    by_cases h4 : k < 8
    · go_wp2_with fail
      refine (rNumber_any _ b 4095 _ _ HD.out.rd).mono ?_
      rintro e w6 ⟨rfl, hr, hg⟩
      have D4 := Lib.hid (HD.out.read hr hg); clear hr hg HD
      have ck := D4.out.cell (3 + k)
      rw [rCells_at _ k h4] at ck
      generalize (recAt bs k).hs.getD k 0 = old at *
      have fk := D4.out.free (3 + k)
      have e4 : (rdNum 4095 (srH (sr3 bs).2 k)).1 = srV bs k := rfl
      rw [e4]
      clear e4
      have D5 : Hid (SDec wb wb.heap.size T b _ (recAt bs (k + 1)) (srH (sr3 bs).2 (k + 1))) := D4.out.store (3 + k) (.int .i64 (srV bs k)) (recAt bs (k + 1)) (recAt_step bs k h4)
      clear D4
      go_wp2
      go_roundw
      case rel => exact ⟨k + 1, by omega, by go_num, D5.out⟩
      case measure => simp [intOf]; omega
    · obtain rfl : k = 8 := by omega
      have D6 : Hid (SDec wb wb.heap.size T b wr (recOf bs) (srH (sr3 bs).2 8)) := HD.out
      clear HD h4 hk
      go_wp2_with fail
      refine (rClose_any _ b _ _ D6.out.rd).mono ?_
      rintro e w6 ⟨rfl, rfl⟩
      have hR6 := (D6.out.below.block w.heap.size hwsz).trans HRb.out
      have HR6 := Lib.hid hR6
      have HB6 : Hid (Below w.heap.size w wr) := Hwb.out.trans (D6.out.below.mono (Nat.le_of_lt hwsz))
      generalize hcl : rdClose (srH (sr3 bs).2 8) = q at *
      have Hcl := Lib.hid hcl; clear hcl
      by_cases hq : q = 0
      · subst hq
        generalize hcq : checkR (recOf bs) = q at *
        have Hcq := Lib.hid hcq; clear hcq
        have Hdec : Hid (decR s = if q ≠ 0 then (zeroR, q) else (recOf bs, 0)) := by show _ = _; unfold decR; rw [Hbs.out, Hcl.out, Hcq.out]; rfl
        have HT6 : Hid (wr.heap[T]? = some (.cells (rCells (recOf bs)) 30 (0, 0))) := D6.out.heap
        clear D6 hR6
        generalize recOf bs = r at *
        obtain ⟨p, b', i, h0, h1, h2, h3, h4, h5, h6, h7⟩ := r
        obtain ⟨c0, c1, c2, c3, c4, c5, c6, c7, c8, c9, c10⟩ := at11 HT6.out
        dsimp only at c0 c1 c2 c3 c4 c5 c6 c7 c8 c9 c10
        go_wp2_with fail
        refine (recCheck_any p b' i h0 h1 h2 h3 h4 h5 h6 h7 _).mono ?_
        rw [Hcq.out]
        rintro e w7 ⟨rfl, hb7⟩
        have hR7 := (hb7.block w.heap.size (lt_of_heap HR6.out)).trans HR6.out
        have hT7 := (hb7.block T (lt_of_heap HT6.out)).trans HT6.out
        have H7 : Hid (Below w.heap.size w w7) := HB6.out.trans (hb7.mono (Nat.le_of_lt (lt_of_heap HR6.out)))
        clear c0 c1 c2 c3 c4 c5 c6 c7 c8 c9 c10
        obtain ⟨c0, c1, c2, c3, c4, c5, c6, c7, c8, c9, c10⟩ := at11 hT7
        obtain ⟨r0, r1, r2, r3, r4, r5, r6, r7, r8, r9, r10⟩ := at11 hR7
        obtain ⟨g0, g1, g2, g3, g4, g5, g6, g7, g8, g9, g10⟩ := free11 hR7
        dsimp only at c0 c1 c2 c3 c4 c5 c6 c7 c8 c9 c10
        clear hR7 hT7 hb7
        by_cases hq : q = 0
        · subst hq
          have he : Hid (decR s = (⟨p, b', i, h0, h1, h2, h3, h4, h5, h6, h7⟩, 0)) := Hdec.out.trans (by simp)
          clear Hdec
          go_wp2
          refine bodyPost_ret (v := .tuple #[.agg #[.int .i64 p, .int .i64 b', .int .i64 i, .int .i64 h0, .int .i64 h1, .int .i64 h2, .int .i64 h3, .int .i64 h4, .int .i64 h5, .int .i64 h6, .int .i64 h7], .int .i64 0]) (by simp [results, Tryz.results48, go_sem, r0, r1, r2, r3, r4, r5, r6, r7, r8, r9, r10]) rfl ?_
          rw [he.out]
          exact ⟨rfl, sBelow_row H7.out (set11_grown _ _ _ _ _ _ _ _ _ _ _ _ _) (Nat.le_refl _) (fun k hk => by cases hk; exact Nat.le_refl _)⟩
        · have hq' : ((q : Int) != 0) = true := bne_iff_ne.2 (by omega)
          have he : Hid (decR s = (zeroR, q)) := Hdec.out.trans (if_pos hq)
          clear hq Hdec
          go_wp2
          refine bodyPost_ret (v := .tuple #[.agg #[.int .i64 0, .int .i64 0, .int .i64 0, .int .i64 0, .int .i64 0, .int .i64 0, .int .i64 0, .int .i64 0, .int .i64 0, .int .i64 0, .int .i64 0], .int .i64 q]) (by simp [results, Tryz.results48, go_sem, r0, r1, r2, r3, r4, r5, r6, r7, r8, r9, r10]) rfl ?_
          rw [he.out]
          exact ⟨rfl, sBelow_row H7.out (set11_grown _ _ _ _ _ _ _ _ _ _ _ _ _) (Nat.le_refl _) (fun k hk => by cases hk; exact Nat.le_refl _)⟩
      · have hq' : ((q : Int) != 0) = true := bne_iff_ne.2 (by omega)
        have he : Hid (decR s = (zeroR, q)) := by show _ = _; unfold decR; rw [Hbs.out, Hcl.out, if_pos hq]
        clear hq
        obtain ⟨r0, r1, r2, r3, r4, r5, r6, r7, r8, r9, r10⟩ := at11 hR6
        obtain ⟨g0, g1, g2, g3, g4, g5, g6, g7, g8, g9, g10⟩ := free11 hR6
        clear hR6
        go_wp2
        refine bodyPost_ret (v := .tuple #[.agg #[.int .i64 0, .int .i64 0, .int .i64 0, .int .i64 0, .int .i64 0, .int .i64 0, .int .i64 0, .int .i64 0, .int .i64 0, .int .i64 0, .int .i64 0], .int .i64 q]) (by simp [results, Tryz.results48, go_sem, r0, r1, r2, r3, r4, r5, r6, r7, r8, r9, r10]) rfl ?_
        rw [he.out]
        exact ⟨rfl, sBelow_row HB6.out (set11_grown _ _ _ _ _ _ _ _ _ _ _ _ _) (Nat.le_refl _) (fun k hk => by cases hk; exact Nat.le_refl _)⟩

end Go.Proofs.YtpieaakdddgdeaaGreatDoor
