/- port: Equal. -/
import Derived.Test.YtalpkndlnfgjfaaDoorPorN
import Derived.BigQuiet
namespace Go.Proofs.YtalpkndlnfgjfaaDoor
open Go.RowKit
attribute [local go_sem ↓] Go.wp_at_zero Go.wp_at_succ
attribute [local go_sem ↓] run_eql_pack

theorem run_neq_pack (w : World) (a1 a2 b1 b2 : ByteArray) : (binOp .neq 49 (.agg #[.string a1, .string a2]) (.agg #[.string b1, .string b2])).run Tryd.prog w = .ok (.bool (!samePk ⟨a1, a2⟩ ⟨b1, b2⟩)) w := by
  have h := run_equal_pack w ⟨a1, a2⟩ ⟨b1, b2⟩
  dsimp only at h
  simp only [binOp]
  simp [h, samePk]
attribute [local go_sem ↓] run_neq_pack

theorem list_eq_of {ps bs : List PackT} (hl : ps.length = bs.length) (h : ∀ j, j < ps.length → ps.getD j zeroPk = bs.getD j zeroPk) : ps = bs := by
  refine List.ext_getElem hl (fun j h1 h2 => ?_)
  have := h j h1
  rw [List.getD_eq_getElem?_getD, List.getD_eq_getElem?_getD, List.getElem?_eq_getElem h1, List.getElem?_eq_getElem h2] at this
  exact this

set_option maxRecDepth 100000 in
set_option maxHeartbeats 1600000 in
theorem slEqual_any (a b : Option Addr) (n c m d : Nat) (ps bs : List PackT) (w : World) (ha : PSl w a n ps) (hb : PSl w b m bs) (hn : n ≤ 70368744177664) (hm : m ≤ 70368744177664) :
    Calls Tryd.prog 42 #[.slice a n c, .slice b m d] w fun r w' => r = .returned (.bool (decide (ps = bs))) ∧ Below w.heap.size w w' := by
  have Ha := Lib.hid ha; clear ha
  have Hb := Lib.hid hb; clear hb
  by_cases h : n = m
  · subst h
    go_enter Tryd.func42, Tryd.ntmps42
    go_wp2
    go_loopw [13, 5] (fun i j wr => ∃ k : Nat, k ≤ n ∧ i = .int .i64 k ∧ Hid (∀ j, j < k → ps.getD j zeroPk = bs.getD j zeroPk) ∧ Hid (Below w.heap.size w wr)) (fun i _ _ => n - (intOf i).toNat)
    case atStart => exact ⟨0, by omega, rfl, fun j hj => by omega, Below.refl _ _⟩
    case round =>
      obtain ⟨k, hk, rfl, Hd, HB⟩ := hrel
      by_cases h4 : k < n
      · obtain ⟨g, off, rfl, hca⟩ := (Ha.out.later HB.out).2 (by omega)
        obtain ⟨g2, off2, rfl, hcb⟩ := (Hb.out.later HB.out).2 (by omega)
        have a0 := (hca k h4).1
        have a1 := (hca k h4).2
        have b0 := (hcb k h4).1
        have b1 := (hcb k h4).2
        clear hca hcb
        by_cases h5 : ps.getD k zeroPk = bs.getD k zeroPk
        · have Hstep : Hid (∀ j, j < k + 1 → ps.getD j zeroPk = bs.getD j zeroPk) := fun j hj => by
            by_cases hjk : j = k
            · subst hjk; exact h5
            · exact Hd.out j (by omega)
          rw [← h5] at b0 b1
          have hsm : samePk (ps.getD k zeroPk) (ps.getD k zeroPk) = true := decide_eq_true rfl
          clear h5
          generalize ps.getD k zeroPk = x at *
          obtain ⟨s1, s2⟩ := x
          dsimp only at *
          go_wp2
          go_quiet (fail)
          go_wp2
          go_roundw
          case rel => exact ⟨k + 1, by omega, by go_num, Hstep.out, below_drewN HB.out _⟩
          case measure => simp [intOf]; omega
        · have he : Hid (decide (ps = bs) = false) := decide_eq_false (fun e => h5 (by rw [e]))
          have hsm : samePk (ps.getD k zeroPk) (bs.getD k zeroPk) = false := decide_eq_false h5
          clear h5
          generalize ps.getD k zeroPk = x at *
          generalize bs.getD k zeroPk = y at *
          obtain ⟨s1, s2⟩ := x
          obtain ⟨t1, t2⟩ := y
          dsimp only at *
          go_wp2
          go_quiet (fail)
          go_wp2
          go_ret
          rw [he.out]
          exact ⟨rfl, below_drewN HB.out _⟩
      · have he : Hid (decide (ps = bs) = true) := decide_eq_true (list_eq_of (by rw [Ha.out.1, Hb.out.1]) (fun j hj => Hd.out j (by rw [Ha.out.1] at hj; omega)))
        go_wp2
        go_ret
        rw [he.out]
        exact ⟨rfl, HB.out⟩
  · have he : Hid (decide (ps = bs) = false) := decide_eq_false (fun e => h (by rw [← Ha.out.1, ← Hb.out.1, e]))
    have h' : ((n : Int) != (m : Int)) = true := bne_iff_ne.2 (by omega)
    clear h
    go_enter Tryd.func42, Tryd.ntmps42
    go_wp2
    go_ret
    rw [he.out]
    exact ⟨rfl, Below.refl _ _⟩

set_option maxRecDepth 100000 in
set_option maxHeartbeats 1600000 in
theorem qEqual_any (ow1 ow2 : ByteArray) (ep1 lo1 ep2 lo2 : Int) (a b : Option Addr) (n c m d : Nat) (ps bs : List PackT) (w : World) (ha : PSl w a n ps) (hb : PSl w b m bs) (hn : n ≤ 70368744177664) (hm : m ≤ 70368744177664) :
    Calls Tryd.prog 16 #[.agg #[.string ow1, .int .i64 ep1, .int .i64 lo1, .slice a n c], .agg #[.string ow2, .int .i64 ep2, .int .i64 lo2, .slice b m d]] w fun r w' => r = .returned (.bool (decide ((⟨ow1, ep1, lo1, ps⟩ : PortT) = ⟨ow2, ep2, lo2, bs⟩))) ∧ Below w.heap.size w w' := by
  have Ha := Lib.hid ha; clear ha
  have Hb := Lib.hid hb; clear hb
  have HB : Hid (∀ o1 o2, Below w.heap.size w ((w.alloc o1).alloc o2)) := fun o1 o2 => ((Below.refl _ _).alloc (Nat.le_refl _) _).alloc (by simp) _
  by_cases h1 : ow1 = ow2
  · subst h1
    by_cases h2 : ep1 = ep2
    · subst h2
      by_cases h3 : lo1 = lo2
      · subst h3
        have he : Hid (decide ((⟨ow1, ep1, lo1, ps⟩ : PortT) = ⟨ow1, ep1, lo1, bs⟩) = decide (ps = bs)) := by show _ = _; simp
        go_enter Tryd.func16, Tryd.ntmps16
        go_wp2_with fail
        refine (slEqual_any a b n c m d ps bs _ (Ha.out.later (HB.out _ _)) (Hb.out.later (HB.out _ _)) hn hm).mono ?_
        rintro r w1 ⟨rfl, hb1⟩
        have HE : Hid (Below w.heap.size w w1) := (HB.out _ _).trans (hb1.mono (HB.out _ _).size)
        clear hb1
        generalize decide (ps = bs) = x at *
        go_wp2
        go_ret
        rw [he.out]
        exact ⟨rfl, HE.out⟩
      · have he : Hid (decide ((⟨ow1, ep1, lo1, ps⟩ : PortT) = ⟨ow1, ep1, lo2, bs⟩) = false) := by show _ = _; simp [h3]
        have h3' : (lo1 == lo2) = false := beq_eq_false_iff_ne.2 h3
        clear h3
        go_enter Tryd.func16, Tryd.ntmps16
        go_wp2
        go_ret
        rw [he.out]
        exact ⟨rfl, HB.out _ _⟩
    · have he : Hid (decide ((⟨ow1, ep1, lo1, ps⟩ : PortT) = ⟨ow1, ep2, lo2, bs⟩) = false) := by show _ = _; simp [h2]
      have h2' : (ep1 == ep2) = false := beq_eq_false_iff_ne.2 h2
      clear h2
      go_enter Tryd.func16, Tryd.ntmps16
      go_wp2
      go_ret
      rw [he.out]
      exact ⟨rfl, HB.out _ _⟩
  · have he : Hid (decide ((⟨ow1, ep1, lo1, ps⟩ : PortT) = ⟨ow2, ep2, lo2, bs⟩) = false) := by show _ = _; simp [h1]
    have h1' : (ow1.toList == ow2.toList) = false := by rw [str_beq]; exact decide_eq_false h1
    clear h1
    go_enter Tryd.func16, Tryd.ntmps16
    go_wp2
    go_ret
    rw [he.out]
    exact ⟨rfl, HB.out _ _⟩

end Go.Proofs.YtalpkndlnfgjfaaDoor
