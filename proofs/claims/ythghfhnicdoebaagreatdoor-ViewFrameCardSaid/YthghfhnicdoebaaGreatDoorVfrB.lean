/- Law 24: ViewFrame. (printed by wip/gen_vfr.py) -/
import Derived.Test.YthghfhnicdoebaaGreatDoorVfrA
import Derived.Test.YthghfhnicdoebaaGreatDoorVpsA
import Derived.Deep.RegionLaw
import Derived.Deep.DeepCutAuto
namespace Go.Proofs.YthghfhnicdoebaaGreatDoor
open Go.RowKit
attribute [local go_sem ↓] Go.wp_at_zero Go.wp_at_succ

set_option maxRecDepth 100000 in
set_option maxHeartbeats 6400000 in
theorem viewFrame_any (a5 : Option Addr) (n5 c5 : Nat) (f5 : Nat → ChangeT) (a6 : Option Addr) (n6 c6 : Nat) (f6 : Nat → ChangeT) (a : Option Addr) (n c : Nat) (fo : Nat → OpV) (w : World) (hu : Usages w) (hn5 : n5 ≤ 9223372036854775807) (hl5 : C24Sl w a5 n5 f5) (hn6 : n6 ≤ 9223372036854775807) (hl6 : C24Sl w a6 n6 f6) (hn : n ≤ 9223372036854775807) (hl : OpSlV w a n fo) :
    Calls Tryz.prog 4 #[.slice a5 n5 c5, .slice a6 n6 c6, .slice a n c] w fun r w' => r = .returned (.bool true) ∧ Below w.heap.size w w' := by
  have HLk : Hid (LOk (baseL f5 (min n5 12)) 12) := (baseL_ok f5 _).more (by omega)
  have HPl : Hid (∀ W, Below w.heap.size w W → Calls Tryz.prog 13 #[.slice a5 n5 c5, .slice a n c] W (Play24Post (baseL f5 (min n5 12)) (runR (baseL f5 (min n5 12)) fo (min n 30)) W)) := fun W hW => play24_any a5 n5 c5 f5 a n c fo W (hu.below hW hu.pos) hn5 (hl5.later hW) hn (hl.later hW)
  have HBs : Hid (∀ W, Below w.heap.size w W → Calls Tryz.prog 8 #[.slice a6 n6 c6] W (BaseRow (baseL f6 (min n6 12)) W)) := fun W hW => (base24_any a6 n6 c6 f6 W (hu.below hW hu.pos) hn6 (hl6.later hW)).mono (fun _ _ h => base_row h)
  have HUs : Hid (∀ W, Below w.heap.size w W → Usages W) := fun W hW => hu.below hW hu.pos
  have Hl := Lib.hid hl
  have HKn : Hid (Calls Tryz.prog 7 #[] w fun r w' => r = .returned (.bool true) ∧ Below w.heap.size w w') := known24_any w hu
  clear hl hu hl5 hl6
  have HMin : Hid (∀ k, k ≤ n → k ≤ 30 → ¬ (k < n ∧ k < 30) → min n 30 = k) := fun k h1 h2 h3 => by omega
  have hmm : min n 30 ≤ n ∧ min n 30 ≤ 30 ∧ (n ≤ min n 30 ∨ 30 ≤ min n 30) := by omega
  generalize min n 30 = mm at *
  have Hmm := Lib.hid hmm
  clear hmm
  generalize baseL f5 (min n5 12) = l at *
  generalize baseL f6 (min n6 12) = l2 at *
  have HRi : Hid (PInv (runR l fo mm).1 (runR l fo mm).2 mm) := runR_inv l fo mm
  have HMono : Hid (∀ k, k ≤ mm → ∀ n, n ∈ (runR l fo k).1 → n ∈ (runR l fo mm).1) := fun k hk n hn => runR_mono hk hn
  go_enter Tryz.func4, Tryz.ntmps4
  go_wp2_with fail
  refine HKn.out.mono ?_
  rintro r w1 ⟨rfl, hb1⟩
  have HB1 := Lib.hid hb1
  clear hb1 HKn
  go_wp2_with fail
  refine (HPl.out _ HB1.out).mono ?_
  rintro r w2 ⟨wv, bv, ab, nb, kb, arx, nrx, krx, acx, ncx, kcx, rfl, hbv, hpv⟩
  have hb2 : Below w1.heap.size w1 w2 := hbv.trans (hpv.s.below.mono hbv.size)
  have HB2 : Hid (Below w.heap.size w w2) := HB1.out.trans (hb2.mono HB1.out.size)
  have HPv2 := Lib.hid hpv
  clear hbv hpv hb2 HB1 HPl
  go_upto_region 4 with fail
  have HX3 := Lib.hid (heap_alloc_new w2 (.cells #[.slice ab nb kb, .slice arx nrx krx, .slice acx ncx kcx] 33))
  have HB23 : Hid (Below w2.heap.size w2 (w2.alloc (.cells #[.slice ab nb kb, .slice arx nrx krx, .slice acx ncx kcx] 33))) := (Below.refl _ _).alloc (Nat.le_refl _) _
  generalize (w2.alloc (.cells #[.slice ab nb kb, .slice arx nrx krx, .slice acx ncx kcx] 33)) = w3 at *
  have HB3 : Hid (Below w.heap.size w w3) := HB2.out.trans (HB23.out.mono HB2.out.size)
  have HPv3 := Lib.hid (HPv2.out.later HB23.out)
  clear HB2 HB23 HPv2
  generalize w2.heap.size = X at *
  go_wp2_with fail
  refine (HBs.out _ HB3.out).mono ?_
  rintro r w4 ⟨sp2, ay, ny, ky, rfl, hb4, hbn4, -, -⟩
  have HB34 := Lib.hid hb4
  have HBn4 := Lib.hid hbn4
  have HPv4 := Lib.hid (HPv3.out.later hb4)
  clear hb4 hbn4 HBs
  go_wp2_with fail
  refine (qm_reads24 HPv4.out.s rfl HRi.out (by have := Hmm.out; omega)).mono ?_
  rintro r w5 ⟨vR, rfl, hrR, hb5⟩
  have HR5 := Lib.hid hrR
  have HB45 := Lib.hid hb5
  have HB35 : Hid (Below w3.heap.size w3 w5) := HB34.out.trans (hb5.mono HB34.out.size)
  clear hrR hb5 HPv4
  have hlen : ((sortR (runR l fo mm).1).map (rdc l)).length ≤ mm := reads_len HRi.out l
  go_wp2_with fail
  refine (baseApply (HUs.out _ (HB3.out.trans (HB35.out.mono HB3.out.size))) (HBn4.out.later HB45.out) HB45.out.size (by have := Hmm.out; omega) HR5.out (reads_ok HLk.out HRi.out)).mono ?_
  rintro r w6 ⟨spU, rfl, hb6, hbn6⟩
  have HAg : Hid (Agree (applyF (getL cmpN l2) ((sortR (runR l fo mm).1).map (rdc l))) l (runR l fo mm).1) := agree_apply _ _ _
  generalize applyF (getL cmpN l2) ((sortR (runR l fo mm).1).map (rdc l)) = fU at *
  generalize 12 + ((sortR (runR l fo mm).1).map (rdc l)).length = M at *
  have HBn6 := Lib.hid hbn6
  have HB36 : Hid (Below w3.heap.size w3 w6) := HB35.out.trans (hb6.mono HB35.out.size)
  have HPv6 := Lib.hid (HPv3.out.later HB36.out)
  clear hb6 hbn6 HB35 HB45 HB34 HBn4 HR5
  go_wp2_with fail
  refine (qm_reads24 HPv6.out.s rfl HRi.out (by have := Hmm.out; omega)).mono ?_
  rintro r w7 ⟨vS, rfl, hrS, hb7⟩
  have HR7 := Lib.hid hrS
  have HB67 := Lib.hid hb7
  clear hrS hb7 HPv6
  go_wp2_with fail
  refine (holds_any (HBn6.out.later HB67.out) HB67.out.size HR7.out (fun c hc => (reads_ok HLk.out HRi.out c hc).1.1) (by have := Hmm.out; omega)).mono ?_
  rintro r w0 ⟨rfl, hb0⟩
  rw [holds_reads HAg.out]
  have HB60 : Hid (Below w6.heap.size w6 w0) := HB67.out.trans (hb0.mono HB67.out.size)
  have HB30 : Hid (Below w3.heap.size w3 w0) := HB36.out.trans (HB60.out.mono HB36.out.size)
  have HLow : Hid (Below w.heap.size w w0) := HB3.out.trans (HB30.out.mono HB3.out.size)
  have HBn0 : Hid (BaseN M w0.heap.size w0 spU fU) := (HBn6.out.later HB60.out).up HB60.out.size
  clear hb0 HR7 HB67 HB60 HB36 HBn6 hlen
  go_wp2_with fail
  refine (qmNew (w0 := w0) (HUs.out _ HLow.out) (Below.refl _ _) HBn0.out).mono ?_
  rintro r w9 ⟨rfl, s9, -⟩
  have HB39 : Hid (Below w3.heap.size w3 w9) := HB30.out.trans (s9.below.mono HB30.out.size)
  have HX9 := Lib.hid ((HB39.out.block _ (lt_of_heap HX3.out)).trans HX3.out)
  have x0 : w9.cell? ⟨X, 0, none⟩ = some (.slice ab nb kb) := cell_of_heap HX9.out 0
  have HI0 := Lib.hid (PlJ.start (V := VG fU [] []) (HPv3.out.hb.later HB30.out) (fun k hk => Nat.lt_of_lt_of_le (HPv3.out.vl k hk) (Nat.le_trans HPv3.out.s.below.size HB30.out.size)) s9)
  clear s9 HBn0 HUs
  go_upto_region 12 with fail
  generalize (w9.alloc (.cells #[.slice ab nb kb, .slice none 0 0, .slice none 0 0] 33)) = w10 at *
  clear x0 HX9 HB39
  generalize w9.heap.size = P at *
  generalize w0.heap.size + 2 = b at *
  go_wp2_with fail
  go_loopg [16] n (fun gk iv wr => ∃ (k : Nat) (ar ac : Option Addr) (nr kr nc kc : Nat), k + gk = n ∧ iv = .int .i64 k ∧ k ≤ 30 ∧ Hid (PlJ w0 wr b M (VG fU (runR l fo k).1 (runR l fo k).2) P l (runR l fo k) (.slice ab nb kb) (.slice ar nr kr) (.slice ac nc kc)))
  case atStart => exact ⟨0, none, none, 0, 0, 0, 0, by omega, rfl, by omega, HI0.out⟩
  case round =>
    clear HI0
    obtain ⟨k, ar, ac, nr, kr, nc, kc, hk, rfl, hk30, HI⟩ := hrel
    have Hk := Lib.hid hk
    have hkn : k ≤ n := by omega
    clear hk
    have HBw : Hid (Below w.heap.size w wr) := HLow.out.trans (HI.out.s.s.below.mono HLow.out.size)
    by_cases hlt : k < n ∧ k < 30
    · obtain ⟨hlt, hlt30⟩ := hlt
      have hkm : k + 1 ≤ mm := by have := Hmm.out; omega
      obtain ⟨g, off, rfl, hc⟩ := Hl.out (by omega)
      have HMk : Hid (∀ W, Below w.heap.size w W → W.heap[P]? = some (.cells #[.slice ab nb kb, .slice ar nr kr, .slice ac nc kc] 33 (0, 0)) → W.cell? ⟨P, 0, none⟩ = some (.slice ab nb kb) ∧ W.cell? ⟨P, 1, none⟩ = some (.slice ar nr kr) ∧ W.cell? ⟨P, 2, none⟩ = some (.slice ac nc kc) ∧ W.cell? ⟨g, off + k * 9, none⟩ = some (.int .u8 (fo k).kd) ∧ W.cell? ⟨g, off + k * 9 + 1, none⟩ = some (.int .i64 (fo k).c.name.kind) ∧ W.cell? ⟨g, off + k * 9 + 2, none⟩ = some (.string (fo k).c.name.owner) ∧ W.cell? ⟨g, off + k * 9 + 3, none⟩ = some (.int .i64 (fo k).c.name.number) ∧ W.cell? ⟨g, off + k * 9 + 4, none⟩ = some (.int .i64 (fo k).c.name.index) ∧ W.cell? ⟨g, off + k * 9 + 5, none⟩ = some (.string (fo k).c.name.text) ∧ W.cell? ⟨g, off + k * 9 + 6, none⟩ = some (.string (fo k).c.value) ∧ W.cell? ⟨g, off + k * 9 + 7, none⟩ = some (.bool (fo k).c.absent) ∧ W.cell? ⟨g, off + k * 9 + 8, none⟩ = some (.int .i64 (fo k).n)) := fun W hb hp => by
        obtain ⟨c0, c1, c2, c3, c4, c5, c6, c7, c8, -⟩ := hc k hlt
        have hg := World.block_lt_of_cell? w _ c0
        exact ⟨cell_of_heap hp 0, cell_of_heap hp 1, cell_of_heap hp 2, ((bcell hb).1 _ _ hg).trans c0, ((bcell hb).1 _ _ hg).trans c1, ((bcell hb).1 _ _ hg).trans c2, ((bcell hb).1 _ _ hg).trans c3, ((bcell hb).1 _ _ hg).trans c4, ((bcell hb).1 _ _ hg).trans c5, ((bcell hb).1 _ _ hg).trans c6, ((bcell hb).1 _ _ hg).trans c7, ((bcell hb).1 _ _ hg).trans c8⟩
      obtain ⟨cc0, -, -, -, -, -, -, -, -, hkd, z1, z2, z3⟩ := hc k hlt
      have hgc : g < w.heap.size := World.block_lt_of_cell? w _ cc0
      have Hg : Hid (g < wr.heap.size) := Nat.lt_of_lt_of_le hgc HBw.out.size
      clear cc0 hc
      have HDo : Hid (∀ G W, PVU w0 W b M (VG fU (runR l fo k).1 (runR l fo k).2) l G (runR l fo k) (.slice ab nb kb) (.slice ar nr kr) (.slice ac nc kc) → Calls Tryz.prog 11 #[.pointer (some ⟨b, 0, none⟩), .agg #[.slice ab nb kb, .slice ar nr kr, .slice ac nc kc], .agg #[.int .u8 (fo k).kd, .int .i64 (fo k).c.name.kind, .string (fo k).c.name.owner, .int .i64 (fo k).c.name.number, .int .i64 (fo k).c.name.index, .string (fo k).c.name.text, .string (fo k).c.value, .bool (fo k).c.absent, .int .i64 (fo k).n]] W fun r w' => ∃ a1 n1 c1 a2 n2 c2, r = .returned (.tuple #[.agg #[.slice ab nb kb, .slice a1 n1 c1, .slice a2 n2 c2], .bool true]) ∧ PVU w0 w' b M (VG fU (runR l fo (k + 1)).1 (runR l fo (k + 1)).2) l G (runR l fo (k + 1)) (.slice ab nb kb) (.slice a1 n1 c1) (.slice a2 n2 c2) ∧ (∀ k, G k → w'.heap[k]? = W.heap[k]?) ∧ (∀ k, (Value.slice a1 n1 c1).ownBlock = some k → (Value.slice ar nr kr).ownBlock = some k ∨ W.heap.size ≤ k) ∧ ∀ k, (Value.slice a2 n2 c2).ownBlock = some k → (Value.slice ac nc kc).ownBlock = some k ∨ W.heap.size ≤ k) := fun G W hs => pvf_do hs HLk.out (runR_inv l fo k) (by omega) (fo k) hkd z1 z2 z3 (fun n hn => HAg.out n (HMono.out (k + 1) (by omega) n hn))
      generalize fo k = o at *
      obtain ⟨kd, ⟨⟨o1, o2, o3, o4, o5⟩, o6, o7⟩, o8⟩ := o
      dsimp only at *
      clear z1 z2 z3
      go_upto_region 15 with fail
      go_cut [17, 18] (fun nv okv wx => okv = .bool true ∧ ∃ B a1 n1 c1 a2 n2 c2, nv = .pointer (some ⟨B, 0, none⟩) ∧ Hid (PlK w0 wx b M (VG fU (runR l fo (k + 1)).1 (runR l fo (k + 1)).2) P B l (runR l fo (k + 1)) (.slice ab nb kb) (.slice ar nr kr) (.slice ac nc kc) (.slice a1 n1 c1) (.slice a2 n2 c2)))
      case first =>
        have HB0 : Hid (Below w.heap.size w wr.drew) := HBw.out.drew
        have HP0 : Hid (wr.drew.heap[P]? = some (.cells #[.slice ab nb kb, .slice ar nr kr, .slice ac nc kc] 33 (0, 0))) := HI.out.p
        have HB0a : Hid (∀ o, Below w.heap.size w (wr.alloc o).drew) := fun o => (HBw.out.alloc HBw.out.size _).drew
        have HP0a : Hid (∀ o, (wr.alloc o).drew.heap[P]? = some (.cells #[.slice ab nb kb, .slice ar nr kr, .slice ac nc kc] 33 (0, 0))) := fun o => (Below.heap_alloc _ _ _ (lt_of_heap HI.out.p)).trans HI.out.p
        have HMo : Hid (∀ o, PVU w0 (wr.alloc o).drew b M (VG fU (runR l fo k).1 (runR l fo k).2) l (fun k => k = P ∨ k = wr.heap.size) (runR l fo k) (.slice ab nb kb) (.slice ar nr kr) (.slice ac nc kc)) := fun o => HI.out.s.more ((Below.refl _ _).alloc (Nat.le_refl _) _).drew (fun k hk => hk.imp id (fun e => by subst e; exact ⟨Nat.le_refl _, by show _ < (wr.alloc o).heap.size; rw [World.size_alloc]; omega⟩))
        have hPn : ¬ P = wr.heap.size := Nat.ne_of_lt (lt_of_heap HI.out.p)
        have hgn : ¬ g = wr.heap.size := Nat.ne_of_lt Hg.out
        go_region_held3 (fun W => W.cell? ⟨P, 0, none⟩ = some (.slice ab nb kb) ∧ W.cell? ⟨P, 1, none⟩ = some (.slice ar nr kr) ∧ W.cell? ⟨P, 2, none⟩ = some (.slice ac nc kc) ∧ W.cell? ⟨g, off + k * 9, none⟩ = some (.int .u8 kd) ∧ W.cell? ⟨g, off + k * 9 + 1, none⟩ = some (.int .i64 o1) ∧ W.cell? ⟨g, off + k * 9 + 2, none⟩ = some (.string o2) ∧ W.cell? ⟨g, off + k * 9 + 3, none⟩ = some (.int .i64 o3) ∧ W.cell? ⟨g, off + k * 9 + 4, none⟩ = some (.int .i64 o4) ∧ W.cell? ⟨g, off + k * 9 + 5, none⟩ = some (.string o5) ∧ W.cell? ⟨g, off + k * 9 + 6, none⟩ = some (.string o6) ∧ W.cell? ⟨g, off + k * 9 + 7, none⟩ = some (.bool o7) ∧ W.cell? ⟨g, off + k * 9 + 8, none⟩ = some (.int .i64 o8)) (first | with_reducible exact HMk.out _ HB0.out HP0.out | with_reducible exact HMk.out _ (HB0a.out _) (HP0a.out _) | with_reducible exact HMk.out _ HB6.out HP6.out | with_reducible exact HMk.out _ (HB6a.out _) (HP6a.out _) | with_reducible exact HMk.out _ HB7.out HP7.out | go_keep)
          (first
            | (go_at_call 11; (with_reducible refine (HDo.out _ _ (HI.out.s.later (Below.refl _ _).drew)).mono ?_); rintro r w6 ⟨a1, n1, c1, a2, n2, c2, rfl, h6, hk6, f1, f2⟩; have HK := Lib.hid (HI.out.wayA h6 hk6 f1 f2); have HB6 : Hid (Below w.heap.size w w6) := HLow.out.trans (h6.s.below.mono HLow.out.size); have HP6 : Hid (w6.heap[P]? = some (.cells #[.slice ab nb kb, .slice ar nr kr, .slice ac nc kc] 33 (0, 0))) := (hk6 P rfl).trans HI.out.p; have HB6a : Hid (∀ o, Below w.heap.size w (w6.alloc o)) := (fun o => HB6.out.alloc HB6.out.size _); have HP6a : Hid (∀ o, (w6.alloc o).heap[P]? = some (.cells #[.slice ab nb kb, .slice ar nr kr, .slice ac nc kc] 33 (0, 0))) := (fun o => (Below.heap_alloc _ _ _ (lt_of_heap HP6.out)).trans HP6.out); clear h6 hk6 f1 f2)
            | (go_at_call 11; (with_reducible refine (HDo.out _ _ (HMo.out _)).mono ?_); rintro r w6 ⟨a1, n1, c1, a2, n2, c2, rfl, h6, hk6, f1, f2⟩; have hB6 : w6.heap[wr.heap.size]? = some (.cells #[.slice none 0 0, .slice none 0 0, .slice none 0 0] 33 (0, 0)) := (hk6 _ (.inr rfl)).trans (heap_alloc_new wr _); have HK := Lib.hid (HI.out.wayB (W := (wr.alloc (.cells #[.slice none 0 0, .slice none 0 0, .slice none 0 0] 33)).drew) (fun _ => rfl) rfl h6 hk6 (fun k hk => (f1 k hk).imp id (fun e => by have e : (wr.alloc _).heap.size ≤ k := e; rwa [World.size_alloc] at e)) (fun k hk => (f2 k hk).imp id (fun e => by have e : (wr.alloc _).heap.size ≤ k := e; rwa [World.size_alloc] at e))); have HB6 : Hid (Below w.heap.size w w6) := HLow.out.trans (h6.s.below.mono HLow.out.size); have HP6 : Hid (w6.heap[P]? = some (.cells #[.slice ab nb kb, .slice ar nr kr, .slice ac nc kc] 33 (0, 0))) := (hk6 P (.inl rfl)).trans (HP0a.out _); have HB7 : Hid (Below w.heap.size w (((w6.setCell ⟨wr.heap.size, 0, none⟩ (.slice ab nb kb)).setCell ⟨wr.heap.size, 1, none⟩ (.slice a1 n1 c1)).setCell ⟨wr.heap.size, 2, none⟩ (.slice a2 n2 c2))) := below_grow HB6.out (grown_set3 _ _ _ _ _) (Nat.le_refl _) (fun k hk => by cases hk; exact HBw.out.size); have HP7 : Hid ((((w6.setCell ⟨wr.heap.size, 0, none⟩ (.slice ab nb kb)).setCell ⟨wr.heap.size, 1, none⟩ (.slice a1 n1 c1)).setCell ⟨wr.heap.size, 2, none⟩ (.slice a2 n2 c2)).heap[P]? = some (.cells #[.slice ab nb kb, .slice ar nr kr, .slice ac nc kc] 33 (0, 0))) := HK.out.p; have nf : ∀ i, w6.frozen? ⟨wr.heap.size, i, none⟩ = false := (fun i => frozen_of_heap hB6 i); have z0 := cell_of_heap hB6 0; have z1 := cell_of_heap hB6 1; have z2 := cell_of_heap hB6 2; clear h6 hk6 f1 f2 hB6)
            | fail)
        all_goals
          go_wp2
          go_meet
          exact ⟨rfl, _, a1, n1, c1, a2, n2, c2, rfl, HK.out⟩
      case rest =>
        obtain ⟨rfl, B, a1, n1, c1, a2, n2, c2, rfl, HK⟩ := hcut
        clear HI HDo HMk Hg hgc
        have v0 : wc.cell? ⟨B, 0, none⟩ = some (.slice ab nb kb) := cell_of_heap HK.out.pb 0
        have v1 : wc.cell? ⟨B, 1, none⟩ = some (.slice a1 n1 c1) := cell_of_heap HK.out.pb 1
        have v2 : wc.cell? ⟨B, 2, none⟩ = some (.slice a2 n2 c2) := cell_of_heap HK.out.pb 2
        have HJ := Lib.hid HK.out.back
        have y0 : wc.cell? ⟨P, 0, none⟩ = some (.slice ab nb kb) := cell_of_heap HK.out.p 0
        have y1 : wc.cell? ⟨P, 1, none⟩ = some (.slice ar nr kr) := cell_of_heap HK.out.p 1
        have y2 : wc.cell? ⟨P, 2, none⟩ = some (.slice ac nc kc) := cell_of_heap HK.out.p 2
        have nf : ∀ i, wc.frozen? ⟨P, i, none⟩ = false := fun i => frozen_of_heap HK.out.p i
        clear HK hkm
        go_wp2
        go_roundg (n - (k + 1))
        case measure => have := Hk.out; omega
        case rel => exact ⟨k + 1, a1, a2, n1, c1, n2, c2, by have := Hk.out; omega, by go_num, by omega, HJ.out⟩
    · have hways : ¬ k < n ∨ (k < n ∧ ¬ k < 30) := by omega
      have hm := HMin.out k hkn hk30 hlt
      subst hm
      clear hlt HMin
      have HB3w : Hid (Below w3.heap.size w3 wr) := HB30.out.trans (HI.out.s.s.below.mono HB30.out.size)
      have HXr := Lib.hid ((HB3w.out.block _ (lt_of_heap HX3.out)).trans HX3.out)
      have HPvr := Lib.hid (HPv3.out.later HB3w.out)
      have hm60 : mm ≤ 60 := by omega
      have HIs : Hid (Calls Tryz.prog 10 #[.pointer (some ⟨b, 0, none⟩), .agg #[.slice ab nb kb, .slice arx nrx krx, .slice acx ncx kcx]] wr fun r w' => r = .returned (.bool true) ∧ Below wr.heap.size wr w') := is24_gen HI.out.s.s (VG_reads HAg.out _) rfl HPvr.out.hb HPvr.out.hr HPvr.out.hc HLk.out HRi.out hm60
      have HMu : Hid (∀ W, Below wr.heap.size wr W → Calls Tryz.prog 12 #[.pointer (some ⟨b, 0, none⟩)] W fun r w' => r = .returned (.int .i64 (runR l fo mm).2.length) ∧ W = w') := fun W hW => qmMark (HI.out.s.s.later hW)
      have HMv : Hid (∀ W, Below wr.heap.size wr W → Calls Tryz.prog 12 #[.pointer (some ⟨bv, 0, none⟩)] W fun r w' => r = .returned (.int .i64 (runR l fo mm).2.length) ∧ W = w') := fun W hW => qmMark (HPvr.out.s.later hW)
      generalize (runR l fo mm).2.length = L at *
      have x0 : wr.cell? ⟨X, 0, none⟩ = some (.slice ab nb kb) := cell_of_heap HXr.out 0
      have x1 : wr.cell? ⟨X, 1, none⟩ = some (.slice arx nrx krx) := cell_of_heap HXr.out 1
      have x2 : wr.cell? ⟨X, 2, none⟩ = some (.slice acx ncx kcx) := cell_of_heap HXr.out 2
      rcases hways with h5 | ⟨h5, h5'⟩
      all_goals
        go_wp2_with fail
        refine HIs.out.mono ?_
        rintro r w11 ⟨rfl, hb11⟩
        have HB11 := Lib.hid hb11
        clear hb11
        go_wp2_with fail
        refine (HMu.out _ HB11.out).mono ?_
        rintro r w12 ⟨rfl, rfl⟩
        go_wp2_with fail
        refine (HMv.out _ HB11.out).mono ?_
        rintro r w13 ⟨rfl, rfl⟩
        go_wp2
        go_ret
        exact ⟨rfl, HBw.out.trans (HB11.out.mono HBw.out.size)⟩
end Go.Proofs.YthghfhnicdoebaaGreatDoor
