/- Law 24: Is. (printed by wip/gen_is.py) -/
import Derived.Test.YthghfhnicdoebaaGreatDoorSamA
import Derived.Test.YthghfhnicdoebaaGreatDoorPvA
import Derived.Test.YthghfhnicdoebaaGreatDoorRdsE
import Derived.Test.YthghfhnicdoebaaGreatDoorQmW
import Derived.Deep.RegionHeld3
namespace Go.Proofs.YthghfhnicdoebaaGreatDoor
open Go.RowKit
attribute [local go_sem ↓] Go.wp_at_zero Go.wp_at_succ

theorem pvi_reads {w0 w : World} {b k : Nat} {l : List (NameT × ByteArray)} {G : Nat → Prop} {q : List NameT × List ChangeT} {vb vr vc : Value} (h : PVI w0 w b l G q vb vr vc) (hi : PInv q.1 q.2 k) (hk : k ≤ 60) : Calls Tryz.prog 15 #[.pointer (some ⟨b, 0, none⟩)] w fun r w' => ∃ v, r = .returned v ∧ RowC w' v ((sortR q.1).map (rdc l)) ∧ Below w.heap.size w w' := by
  have hn : (VOf l q.1 q.2).reads.length ≤ 1000000 := Nat.le_trans (rd_length l q.1) (by have := hi.rl; omega)
  refine (qmReads h.s hn).mono ?_
  rintro r w' ⟨v, cs, rfl, hr, hp, hs, hb, -⟩
  rw [reads_same hp hs] at hr
  exact ⟨v, rfl, hr, hb⟩
theorem pvi_writes {w0 w : World} {b : Nat} {l : List (NameT × ByteArray)} {G : Nat → Prop} {q : List NameT × List ChangeT} {vb vr vc : Value} (h : PVI w0 w b l G q vb vr vc) : Calls Tryz.prog 22 #[.pointer (some ⟨b, 0, none⟩)] w fun r w' => ∃ v, r = .returned v ∧ RowC w' v (wrR q.2) ∧ Below w.heap.size w w' := by
  refine (qmWrites h.s).mono ?_
  rintro r w' ⟨v, cs, rfl, hr, hp, hs, hb, -⟩
  rw [writes_same hp hs] at hr
  exact ⟨v, rfl, hr, hb⟩
theorem wrR_len (cs : List ChangeT) : (wrR cs).length ≤ cs.length := by
  unfold wrR
  rw [List.length_map]
  exact Nat.le_trans (sortR_len _) (by rw [List.length_map]; exact Nat.le_refl _)

set_option maxRecDepth 100000 in
set_option maxHeartbeats 6400000 in
theorem is24_any {w0 w : World} {b k : Nat} {l : List (NameT × ByteArray)} {G : Nat → Prop} {q : List NameT × List ChangeT} {ab ar ac : Option Addr} {nb nr nc kb kr kc : Nat} (h : PVI w0 w b l G q (.slice ab nb kb) (.slice ar nr kr) (.slice ac nc kc)) (hl : LOk l 12) (hi : PInv q.1 q.2 k) (hk : k ≤ 60) :
    Calls Tryz.prog 10 #[.pointer (some ⟨b, 0, none⟩), .agg #[.slice ab nb kb, .slice ar nr kr, .slice ac nc kc]] w fun r w' => r = .returned (.bool true) ∧ Below w.heap.size w w' := by
  have HB0 : Hid (∀ o, Below w.heap.size w (w.alloc o)) := fun o => (Below.refl _ _).alloc (Nat.le_refl _) _
  have HX0 : Hid (∀ o, (w.alloc o).heap[w.heap.size]? = some o) := fun o => heap_alloc_new w o
  have HRd : Hid (∀ W, Below w.heap.size w W → Calls Tryz.prog 15 #[.pointer (some ⟨b, 0, none⟩)] W fun r w' => ∃ v, r = .returned v ∧ RowC w' v ((sortR q.1).map (rdc l)) ∧ Below W.heap.size W w') := fun W hW => pvi_reads (h.later hW) hi hk
  have HWr : Hid (∀ W, Below w.heap.size w W → Calls Tryz.prog 22 #[.pointer (some ⟨b, 0, none⟩)] W fun r w' => ∃ v, r = .returned v ∧ RowC w' v (wrR q.2) ∧ Below W.heap.size W w') := fun W hW => pvi_writes (h.later hW)
  have HRR : Hid (∀ W, Below w.heap.size w W → Calls Tryz.prog 25 #[.agg #[.slice ab nb kb, .slice ar nr kr, .slice ac nc kc]] W fun r w' => ∃ v, r = .returned v ∧ RowK kC w' v ((sortR q.1).map (rdc l)) ∧ Below W.heap.size W w') := fun W hW => rReads_any W ab ar ac nb nr nc kb kr kc l q.1 (h.hb.later hW) (h.hr.later hW) (fun n hn => (hi.rf n hn).1) hl.fit hl.s (by have := hl.n; omega) (by have := hi.rl; omega)
  have HRW : Hid (∀ W, Below w.heap.size w W → Calls Tryz.prog 19 #[.agg #[.slice ab nb kb, .slice ar nr kr, .slice ac nc kc]] W fun r w' => ∃ v, r = .returned v ∧ RowK kC w' v (wrR q.2) ∧ Below W.heap.size W w') := fun W hW => rWrites_any W ab ar ac nb nr nc kb kr kc q.2 (h.hc.later hW) (fun c hc => (hi.cf c hc).2.1) (by have := hi.cl; omega)
  have HSm1 : Hid (∀ W v1 v2, RowC W v1 ((sortR q.1).map (rdc l)) → RowK kC W v2 ((sortR q.1).map (rdc l)) → Calls Tryz.prog 38 #[v1, v2] W fun r w' => r = .returned (.bool true) ∧ Below W.heap.size W w') := fun W v1 v2 h1 h2 => same24_any W v1 v2 _ h1 h2 (by rw [List.length_map]; exact Nat.le_trans (sortR_len _) (by have := hi.rl; omega))
  have HSm2 : Hid (∀ W v1 v2, RowC W v1 (wrR q.2) → RowK kC W v2 (wrR q.2) → Calls Tryz.prog 38 #[v1, v2] W fun r w' => r = .returned (.bool true) ∧ Below W.heap.size W w') := fun W v1 v2 h1 h2 => same24_any W v1 v2 _ h1 h2 (Nat.le_trans (wrR_len _) (by have := hi.cl; omega))
  clear h hl hi hk
  generalize (sortR q.1).map (rdc l) = cR at *
  generalize wrR q.2 = cW at *
  go_enter Tryz.func10, Tryz.ntmps10
  go_upto_region 1 with fail
  have HBo := Lib.hid (HB0.out (.cells #[.slice ab nb kb, .slice ar nr kr, .slice ac nc kc] 33))
  have HXo := Lib.hid (HX0.out (.cells #[.slice ab nb kb, .slice ar nr kr, .slice ac nc kc] 33))
  clear HB0 HX0
  generalize w.alloc (.cells #[.slice ab nb kb, .slice ar nr kr, .slice ac nc kc] 33) = w1 at *
  have HRd1 : Hid (∀ W, Below w1.heap.size w1 W → _) := fun W hW => HRd.out W (HBo.out.trans (hW.mono HBo.out.size))
  have HWr1 : Hid (∀ W, Below w1.heap.size w1 W → _) := fun W hW => HWr.out W (HBo.out.trans (hW.mono HBo.out.size))
  have HRR1 : Hid (∀ W, Below w1.heap.size w1 W → _) := fun W hW => HRR.out W (HBo.out.trans (hW.mono HBo.out.size))
  have HRW1 : Hid (∀ W, Below w1.heap.size w1 W → _) := fun W hW => HRW.out W (HBo.out.trans (hW.mono HBo.out.size))
  have HSb : Hid (∀ W, Below w1.heap.size w1 W → W.cell? ⟨w.heap.size, 0, none⟩ = some (.slice ab nb kb) ∧ W.cell? ⟨w.heap.size, 1, none⟩ = some (.slice ar nr kr) ∧ W.cell? ⟨w.heap.size, 2, none⟩ = some (.slice ac nc kc)) := fun W hW => by
    have h := (hW.block _ (lt_of_heap HXo.out)).trans HXo.out
    exact ⟨cell_of_heap h 0, cell_of_heap h 1, cell_of_heap h 2⟩
  have HD0 : Hid (Below w1.heap.size w1 w1.drew) := (Below.refl _ _).drew
  clear HRd HWr HRR HRW HXo
  go_region_held3 (fun W => W.cell? ⟨w.heap.size, 0, none⟩ = some (.slice ab nb kb) ∧ W.cell? ⟨w.heap.size, 1, none⟩ = some (.slice ar nr kr) ∧ W.cell? ⟨w.heap.size, 2, none⟩ = some (.slice ac nc kc)) (first | with_reducible exact HSb.out _ HD0.out | with_reducible exact HSb.out _ Ba1.out | with_reducible exact HSb.out _ Bx1.out | with_reducible exact HSb.out _ Bb1.out | with_reducible exact HSb.out _ Bc1.out | with_reducible exact HSb.out _ Ba2.out | with_reducible exact HSb.out _ Bx2.out | with_reducible exact HSb.out _ Bb2.out | with_reducible exact HSb.out _ Bc2.out | go_keep)
        (first
          | (go_at_call 15; (with_reducible refine (HRd1.out _ HD0.out).mono ?_); rintro r wa1 ⟨va1, rfl, ra, hb⟩; have Ba1 : Hid (Below w1.heap.size w1 wa1) := HD0.out.trans (hb.mono HD0.out.size); have Ra1 := Lib.hid ra; clear ra hb)
          | (go_at_call 25; (with_reducible refine (HRR1.out _ Ba1.out).mono ?_); rintro r wb1 ⟨vb1, rfl, rb, hb⟩; have Bb1 : Hid (Below w1.heap.size w1 wb1) := Ba1.out.trans (hb.mono Ba1.out.size); have Rb1 := Lib.hid rb; have Rc1 := Lib.hid (Ra1.out.later hb); clear rb hb)
          | (go_at_call 25; (with_reducible refine (HRR1.out _ HD0.out).mono ?_); rintro r wx1 ⟨vb1, rfl, rb, hb⟩; have Bx1 : Hid (Below w1.heap.size w1 wx1) := HD0.out.trans (hb.mono HD0.out.size); have Rx1 := Lib.hid rb; clear rb hb)
          | (go_at_call 15; (with_reducible refine (HRd1.out _ Bx1.out).mono ?_); rintro r wb1 ⟨va1, rfl, ra, hb⟩; have Bb1 : Hid (Below w1.heap.size w1 wb1) := Bx1.out.trans (hb.mono Bx1.out.size); have Rc1 := Lib.hid ra; have Rb1 := Lib.hid (Rx1.out.later hb); clear ra hb)
          | (go_at_call 38; (with_reducible refine (HSm1.out _ _ _ Rc1.out Rb1.out).mono ?_); rintro r wc1 ⟨rfl, hb⟩; have Bc1 : Hid (Below w1.heap.size w1 wc1) := Bb1.out.trans (hb.mono Bb1.out.size); clear hb)
          | (go_at_call 22; (with_reducible refine (HWr1.out _ Bc1.out).mono ?_); rintro r wa2 ⟨va2, rfl, ra, hb⟩; have Ba2 : Hid (Below w1.heap.size w1 wa2) := Bc1.out.trans (hb.mono Bc1.out.size); have Ra2 := Lib.hid ra; clear ra hb)
          | (go_at_call 19; (with_reducible refine (HRW1.out _ Ba2.out).mono ?_); rintro r wb2 ⟨vb2, rfl, rb, hb⟩; have Bb2 : Hid (Below w1.heap.size w1 wb2) := Ba2.out.trans (hb.mono Ba2.out.size); have Rb2 := Lib.hid rb; have Rc2 := Lib.hid (Ra2.out.later hb); clear rb hb)
          | (go_at_call 19; (with_reducible refine (HRW1.out _ Bc1.out).mono ?_); rintro r wx2 ⟨vb2, rfl, rb, hb⟩; have Bx2 : Hid (Below w1.heap.size w1 wx2) := Bc1.out.trans (hb.mono Bc1.out.size); have Rx2 := Lib.hid rb; clear rb hb)
          | (go_at_call 22; (with_reducible refine (HWr1.out _ Bx2.out).mono ?_); rintro r wb2 ⟨va2, rfl, ra, hb⟩; have Bb2 : Hid (Below w1.heap.size w1 wb2) := Bx2.out.trans (hb.mono Bx2.out.size); have Rc2 := Lib.hid ra; have Rb2 := Lib.hid (Rx2.out.later hb); clear ra hb)
          | (go_at_call 38; (with_reducible refine (HSm2.out _ _ _ Rc2.out Rb2.out).mono ?_); rintro r wc2 ⟨rfl, hb⟩; have Bc2 : Hid (Below w1.heap.size w1 wc2) := Bb2.out.trans (hb.mono Bb2.out.size); clear hb)
          | fail)
  all_goals
    have HF : Hid (Below w.heap.size w wc2) := HBo.out.trans (Bc2.out.mono HBo.out.size)
    go_wp2
    go_ret
    exact ⟨rfl, HF.out⟩
end Go.Proofs.YthghfhnicdoebaaGreatDoor
