/- signal: Encode, of the program and of the law. -/
import Derived.Test.YtemmeopaihmlcaaDoorSigA
import Derived.Test.YtemmeopaihmlcaaDoorPlainN
import Derived.Test.YtemmeopaihmlcaaDoorViewA
namespace Go.Proofs.YtemmeopaihmlcaaDoor
open Go.RowKit
attribute [local go_sem ↓] Go.wp_at_zero Go.wp_at_succ

theorem checkR_ok {r : RecT} (h : checkR r = 0) : (setB r.p = true ∧ setB r.b = true ∧ setB r.i = true ∧ r.h0 = 0) ∧ (∀ k, k < 8 → addrB (r.hs.getD k 0) = true) ∧ (hasB r.b 3 = false ∧ hasB r.i 3 = false ∧ r.h3 = 0) ∧ ∀ k, k < 8 → clashB r.i k (r.hs.getD k 0) = false := by
  unfold checkR at h
  by_cases h1 : setB r.p = false ∨ setB r.b = false ∨ setB r.i = false ∨ r.h0 ≠ 0
  · rw [if_pos h1] at h; cases h
  rw [if_neg h1] at h
  by_cases h2 : allH (fun _ x => addrB x) r.hs = false
  · rw [if_pos h2] at h; cases h
  rw [if_neg h2] at h
  by_cases h3 : hasB r.b 3 = true ∨ hasB r.i 3 = true ∨ r.h3 ≠ 0
  · rw [if_pos h3] at h; cases h
  rw [if_neg h3] at h
  by_cases h4 : allH (fun k x => !clashB r.i k x) r.hs = false
  · rw [if_pos h4] at h; cases h
  refine ⟨⟨?_, ?_, ?_, ?_⟩, fun k hk => ?_, ⟨?_, ?_, ?_⟩, fun k hk => ?_⟩
  · cases hx : setB r.p with
    | true => rfl
    | false => exact absurd (.inl hx) h1
  · cases hx : setB r.b with
    | true => rfl
    | false => exact absurd (.inr (.inl hx)) h1
  · cases hx : setB r.i with
    | true => rfl
    | false => exact absurd (.inr (.inr (.inl hx))) h1
  · exact Decidable.not_not.1 (fun hx => h1 (.inr (.inr (.inr hx))))
  · cases hx : addrB (r.hs.getD k 0) with
    | true => rfl
    | false => exact absurd (allH_false k hk hx) h2
  · cases hx : hasB r.b 3 with
    | false => rfl
    | true => exact absurd (.inl hx) h3
  · cases hx : hasB r.i 3 with
    | false => rfl
    | true => exact absurd (.inr (.inl hx)) h3
  · exact Decidable.not_not.1 (fun hx => h3 (.inr (.inr hx)))
  · cases hx : clashB r.i k (r.hs.getD k 0) with
    | false => rfl
    | true => exact absurd (allH_false k hk (by rw [hx]; rfl)) h4
theorem setB_ok {n : Int} (h : setB n = true) : 0 ≤ n ∧ n ≤ 254 := by
  simp only [setB, Bool.and_eq_true, decide_eq_true_eq] at h
  exact ⟨h.1.1, h.1.2⟩
theorem addrB_ok {n : Int} (h : addrB n = true) : 0 ≤ n ∧ n ≤ 4095 := by
  simp only [addrB, Bool.and_eq_true, decide_eq_true_eq] at h
  exact h

/-- The encoding. -/
def numsB (l : List Int) : List UInt8 := l.flatMap fun x => natBytes x.toNat
def headR (r : RecT) : List UInt8 := [] ++ natBytes r.p.toNat ++ natBytes r.b.toNat ++ natBytes r.i.toNat
def encRB (r : RecT) : List UInt8 := headR r ++ numsB r.hs
def encR (r : RecT) : ByteArray × Nat := if checkR r = 0 then (strOf (encRB r), 0) else (⟨#[]⟩, checkR r)
theorem numsB_snoc (l : List Int) (k : Nat) (hk : k < l.length) : numsB (l.take (k + 1)) = numsB (l.take k) ++ natBytes (l.getD k 0).toNat := by
  rw [List.take_succ_eq_append_getElem hk, List.getD_eq_getElem?_getD, List.getElem?_eq_getElem hk]
  simp only [numsB, List.flatMap_append, List.flatMap_cons, List.flatMap_nil, List.append_nil, Option.getD_some]
theorem numsB_length (l : List Int) : (numsB l).length ≤ l.length * 10 := by
  induction l with
  | nil => simp [numsB]
  | cons x r ih =>
    have h2 := natBytes_length x.toNat
    simp only [numsB, List.flatMap_cons, List.length_append, List.length_cons] at *
    omega
theorem headR_length (r : RecT) : (headR r).length ≤ 30 := by
  have h1 := natBytes_length r.p.toNat
  have h2 := natBytes_length r.b.toNat
  have h3 := natBytes_length r.i.toNat
  simp only [headR, List.nil_append, List.length_append]
  omega
theorem hs_length (r : RecT) : r.hs.length = 8 := rfl
theorem encRB_length (r : RecT) : (encRB r).length ≤ 110 := by
  have h1 := headR_length r
  have h2 := numsB_length r.hs
  rw [hs_length] at h2
  simp only [encRB, List.length_append]
  omega
theorem encRB_ne (r : RecT) : encRB r ≠ [] := by
  intro h
  have := natBytes_ne r.p.toNat
  simp [encRB, headR] at h
  exact this h.1

set_option maxRecDepth 100000 in
set_option maxHeartbeats 4000000 in
theorem rEncode_any (p b i h0 h1 h2 h3 h4 h5 h6 h7 : Int) (w : World) : Calls Tryd.prog 75 #[.agg #[.int .i64 p, .int .i64 b, .int .i64 i, .int .i64 h0, .int .i64 h1, .int .i64 h2, .int .i64 h3, .int .i64 h4, .int .i64 h5, .int .i64 h6, .int .i64 h7]] w fun r w' => r = .returned (.tuple #[.string (encR ⟨p, b, i, h0, h1, h2, h3, h4, h5, h6, h7⟩).1, .int .i64 (encR ⟨p, b, i, h0, h1, h2, h3, h4, h5, h6, h7⟩).2]) ∧ Below w.heap.size w w' := by
  have Hbx : Hid (∀ v t, Below w.heap.size w (w.alloc (.cells v t))) := fun v t => (Below.refl _ _).alloc (Nat.le_refl _) _
  go_enter Tryd.func75, Tryd.ntmps75
  go_wp2_with fail
  refine (recCheck_any p b i h0 h1 h2 h3 h4 h5 h6 h7 _).mono ?_
  rintro e w1 ⟨rfl, hb1⟩
  have hqc : ∀ j, w1.cell? ⟨w.heap.size, j, none⟩ = (rCells ⟨p, b, i, h0, h1, h2, h3, h4, h5, h6, h7⟩)[j]? := fun j => ((bcell hb1).1 _ _ (by simp)).trans (cell_of_heap (World.alloc_heap_new w _) j)
  have Hb1 : Hid (Below w.heap.size w w1) := (Hbx.out _ _).trans (hb1.mono (by simp))
  have hsz1 : w.heap.size < w1.heap.size := by have := hb1.size; simp at this; omega
  clear hb1
  generalize hq : checkR ⟨p, b, i, h0, h1, h2, h3, h4, h5, h6, h7⟩ = q at *
  have Hq := Lib.hid hq; clear hq
  by_cases h0' : q = 0
  · obtain ⟨⟨sp, sb, si, -⟩, ha, -, -⟩ := checkR_ok (Hq.out.trans h0')
    have hp := setB_ok sp
    have hb := setB_ok sb
    have hi := setB_ok si
    dsimp only at hp hb hi
    clear sp sb si
    have Ha := Lib.hid ha; clear ha
    subst h0'
    have he : Hid (encR ⟨p, b, i, h0, h1, h2, h3, h4, h5, h6, h7⟩ = (strOf (encRB ⟨p, b, i, h0, h1, h2, h3, h4, h5, h6, h7⟩), 0)) := if_pos Hq.out
    go_wp2_with fail
    refine (newWriter_any _).mono ?_
    rintro e w2 ⟨rfl, rfl⟩
    have Hwr := Lib.hid (wr_box (w := w1))
    have hB0 : Below w1.heap.size w1 (w1.alloc (.cells #[.slice none 0 0, .int .i64 0] 123)) := (Below.refl _ _).alloc (Nat.le_refl _) _
    generalize w1.alloc (.cells #[.slice none 0 0, .int .i64 0] 123) = w2 at *
    have hc0 : w2.cell? ⟨w.heap.size, 0, none⟩ = some (.int .i64 p) := ((bcell hB0).1 _ _ hsz1).trans (hqc 0)
    have HB2 := Lib.hid hB0; clear hB0
    have Hqc := Lib.hid hqc; clear hqc
    go_wp2_with fail
    refine (number_any w1.heap.size w1.heap.size [] p _ hp.1 (by omega) (by simp) HB2.out.size Hwr.out).mono ?_
    rintro e w3 ⟨rfl, hwr, hb⟩
    have HB3 : Hid (Below w1.heap.size w1 w3) := HB2.out.trans hb
    clear HB2 Hwr hc0 hb
    have Hwr := Lib.hid hwr; clear hwr
    have hc1 : w3.cell? ⟨w.heap.size, 1, none⟩ = some (.int .i64 b) := ((bcell HB3.out).1 _ _ hsz1).trans (Hqc.out 1)
    have hl3 : Hid (([] ++ natBytes p.toNat).length ≤ 10) := by
      show _ ≤ _
      simpa using natBytes_length p.toNat
    go_wp2_with fail
    refine (number_any w1.heap.size w1.heap.size _ b _ (by omega) (by omega) (by have := hl3.out; omega) HB3.out.size Hwr.out).mono ?_
    rintro e w4 ⟨rfl, hwr, hb⟩
    have HB4 : Hid (Below w1.heap.size w1 w4) := HB3.out.trans hb
    clear HB3 Hwr hc1 hb
    have Hwr := Lib.hid hwr; clear hwr
    have hc2 : w4.cell? ⟨w.heap.size, 2, none⟩ = some (.int .i64 i) := ((bcell HB4.out).1 _ _ hsz1).trans (Hqc.out 2)
    have hl4 : Hid (([] ++ natBytes p.toNat ++ natBytes b.toNat).length ≤ 20) := by
      show _ ≤ _
      have h1 := hl3.out
      have h2 := natBytes_length b.toNat
      rw [List.length_append]
      omega
    go_wp2_with fail
    refine (number_any w1.heap.size w1.heap.size _ i _ hi.1 (by omega) (by have := hl4.out; omega) HB4.out.size Hwr.out).mono ?_
    rintro e w5 ⟨rfl, hwr, hb⟩
    have HB5 : Hid (Below w1.heap.size w1 w5) := HB4.out.trans hb
    clear HB4 Hwr hc2 hb hl3 hl4
    have hhead : [] ++ natBytes p.toNat ++ natBytes b.toNat ++ natBytes i.toNat = headR ⟨p, b, i, h0, h1, h2, h3, h4, h5, h6, h7⟩ := rfl
    rw [hhead] at hwr
    clear hhead
    have Hwr := Lib.hid hwr; clear hwr
    have k0 : w5.cell? ⟨w.heap.size, 3, none⟩ = some (.int .i64 h0) := ((bcell HB5.out).1 _ _ hsz1).trans (Hqc.out 3)
    have k1 : w5.cell? ⟨w.heap.size, 4, none⟩ = some (.int .i64 h1) := ((bcell HB5.out).1 _ _ hsz1).trans (Hqc.out 4)
    have k2 : w5.cell? ⟨w.heap.size, 5, none⟩ = some (.int .i64 h2) := ((bcell HB5.out).1 _ _ hsz1).trans (Hqc.out 5)
    have k3 : w5.cell? ⟨w.heap.size, 6, none⟩ = some (.int .i64 h3) := ((bcell HB5.out).1 _ _ hsz1).trans (Hqc.out 6)
    have k4 : w5.cell? ⟨w.heap.size, 7, none⟩ = some (.int .i64 h4) := ((bcell HB5.out).1 _ _ hsz1).trans (Hqc.out 7)
    have k5 : w5.cell? ⟨w.heap.size, 8, none⟩ = some (.int .i64 h5) := ((bcell HB5.out).1 _ _ hsz1).trans (Hqc.out 8)
    have k6 : w5.cell? ⟨w.heap.size, 9, none⟩ = some (.int .i64 h6) := ((bcell HB5.out).1 _ _ hsz1).trans (Hqc.out 9)
    have k7 : w5.cell? ⟨w.heap.size, 10, none⟩ = some (.int .i64 h7) := ((bcell HB5.out).1 _ _ hsz1).trans (Hqc.out 10)
    go_wp2
    clear k0 k1 k2 k3 k4 k5 k6 k7
    have HIx : Hid (∀ n : Nat, n < 8 → ∀ W, (Instr.index 33 (.agg #[.int .i64 h0, .int .i64 h1, .int .i64 h2, .int .i64 h3, .int .i64 h4, .int .i64 h5, .int .i64 h6, .int .i64 h7]) (.int .i64 n)).run Tryd.prog W = .ok (.int .i64 ((RecT.mk p b i h0 h1 h2 h3 h4 h5 h6 h7).hs.getD n 0)) W) := fun n hn W => run_index8 ⟨p, b, i, h0, h1, h2, h3, h4, h5, h6, h7⟩ n hn W
    obtain ⟨R, hR⟩ : ∃ R : RecT, RecT.mk p b i h0 h1 h2 h3 h4 h5 h6 h7 = R := ⟨_, rfl⟩
    rw [hR] at HIx Ha Hwr Hq
    have HR := Lib.hid hR; clear hR
    go_loopw [30] (fun i wr => ∃ k : Nat, k ≤ 8 ∧ i = .int .i64 k ∧ Hid (Wr w1.heap.size w1.heap.size wr (headR R ++ numsB (R.hs.take k))) ∧ Hid (Below w1.heap.size w1 wr)) (fun i _ => 8 - (intOf i).toNat)
    case atStart => exact ⟨0, by omega, rfl, by show Wr _ _ _ _; simpa [numsB] using Hwr.out, HB5.out⟩
    case round =>
      obtain ⟨k, hk, rfl, HW, HB⟩ := hrel
      clear HB5 Hwr
      by_cases h4' : k < 8
      · have hix := HIx.out k h4'
        have Hsn := Lib.hid (numsB_snoc R.hs k h4')
        have hx := addrB_ok (Ha.out k h4')
        have hll : Hid ((headR R ++ numsB (R.hs.take k)).length ≤ 1000) := by
          show _ ≤ _
          have h1 := headR_length R
          have h2 := numsB_length (R.hs.take k)
          have h3 : (R.hs.take k).length ≤ k := by simp; omega
          rw [List.length_append]
          omega
        generalize R.hs.getD k 0 = x at *
        go_wp2_with fail
        refine (number_any w1.heap.size w1.heap.size _ x _ hx.1 (by omega) (by have := hll.out; omega) HB.out.size HW.out).mono ?_
        rintro e w7 ⟨rfl, hwr, hb⟩
        have HWn := Lib.hid hwr; clear hwr
        have HB7 : Hid (Below w1.heap.size w1 w7) := HB.out.trans hb
        clear hb
        go_wp2
        go_roundw
        case rel =>
          refine ⟨k + 1, by omega, by go_num, ?_, HB7.out⟩
          show Wr _ _ _ _
          rw [Hsn.out, ← List.append_assoc]
          exact HWn.out
        case measure => simp [intOf]; omega
      · obtain rfl : k = 8 := by omega
        have hfull : Hid (headR R ++ numsB (R.hs.take 8) = encRB R) := rfl
        have hll : Hid ((encRB R).length ≤ 35184372088832) := Nat.le_trans (encRB_length R) (by decide)
        have hwr := HW.out
        rw [hfull.out] at hwr
        have HWn := Lib.hid hwr; clear hwr HW
        go_wp2_with fail
        refine (bytes_any w1.heap.size w1.heap.size _ _ hll.out HWn.out).mono ?_
        rintro e w7 ⟨v, rfl, hrow, hb, hform⟩
        rcases hform with rfl | ⟨g2, n2, c2, rfl, hg2⟩
        · exfalso
          rcases hrow.2 with ⟨_, h⟩ | ⟨g', cap', cur, h0, _⟩
          · exact encRB_ne R (by simpa using h)
          · cases h0
        · have hconv := run_bytes_str w7 g2 0 n2 c2 _ hrow.sl.1
          have Hfin : Hid (Below w.heap.size w w7) := (Hb1.out.trans (HB.out.mono (by omega))).trans (hb.mono (by have := HB.out.size; omega))
          clear hrow hb HB HWn
          go_wp2
          go_ret2
          rw [he.out, HR.out]
          exact ⟨rfl, Hfin.out⟩
  · have he : Hid (encR ⟨p, b, i, h0, h1, h2, h3, h4, h5, h6, h7⟩ = (⟨#[]⟩, q)) := by show _ = _; unfold encR; rw [Hq.out, if_neg h0']
    have h0'' : ((q : Int) != 0) = true := bne_iff_ne.2 (by omega)
    clear h0'
    go_wp2
    go_ret2
    rw [he.out]
    exact ⟨rfl, Hb1.out⟩

end Go.Proofs.YtemmeopaihmlcaaDoor
