/- Law 37: expect, arm by arm. (printed by wip/gen_po.py) Law 37: expect, arm by arm, on. (printed by wip/gen_po.py) Law 37: expect, arm by arm, on 2. (printed by wip/gen_po.py) Law 37: expect, arm by arm, on 3. (printed by wip/gen_po.py) Law 37: expect, arm by arm, on 4. (printed by wip/gen_po.py) -/
import Derived.Test.YtijfdgoeppehlaaGreatDoorPoC
import Derived.BigQuiet
import Derived.Deep.RegionHeld3
import Derived.RegionTactic
import Derived.Deep.CutBlock
import Derived.Deep.RegionLaw
namespace Go.Proofs.YtijfdgoeppehlaaGreatDoor
open Go.RowKit
attribute [local go_sem ↓] Go.wp_at_zero Go.wp_at_succ

set_option maxRecDepth 100000 in
set_option maxHeartbeats 3200000 in
theorem ex_range (a : Option Addr) (n c : Nat) (es : List EntT) (kd wh us : Nat) (nu ep : Int) (sr by_ : ByteArray) (o : Option PortT) (w : World) (hl : EntR w a n es) (hn : n ≤ 1000) (hsr : sr.size ≤ 9223372036854775807) (hby : by_.size ≤ 9223372036854775807) (hr : (nu < 1 ∨ 9999 < nu) ∨ numB ep = false) :
    Calls Tryz.prog 21 #[.agg #[.slice a n c], .agg #[.int .u8 kd, .int .u8 wh, .int .u8 us, .int .i64 nu, .int .i64 ep, .string sr, .string by_]] w (EPost w a es nu (o, ⟨zeroPk, ⟨#[]⟩, 2⟩, 0)) := by
  have Hr := Lib.hid hr; clear hr
  obtain ⟨ow, pe, lo, qa, qn, qc, bi, hgv⟩ := getV_form (findE es nu ep)
  have Hgv := Lib.hid hgv; clear hgv
  have Hl := Lib.hid hl; clear hl
  have D0 := Lib.hid (EX.start w a n c #[.int .u8 kd, .int .u8 wh, .int .u8 us, .int .i64 nu, .int .i64 ep, .string sr, .string by_])
  go_enter Tryz.func21, Tryz.ntmps21
  go_wp2_with fail
  generalize (((w.alloc (.cells #[.slice a n c] 30)).alloc (.cells #[.int .u8 kd, .int .u8 wh, .int .u8 us, .int .i64 nu, .int .i64 ep, .string sr, .string by_] 35)).alloc (.cells #[.string ⟨#[]⟩, .string ⟨#[]⟩, .string ⟨#[]⟩, .int .i64 0] 42)).alloc (.cells #[.slice none 0 0] 30) = W at *
  refine (get_any37 a n c es nu ep W (Hl.out.later D0.out.below) (by omega)).mono ?_
  rintro r w1 ⟨rfl, hb1⟩
  rw [Hgv.out]
  have D1 := Lib.hid (D0.out.later hb1)
  clear hb1 D0 Hgv
  have D1a : Hid (∀ o, EX w (w1.alloc o) a n c #[.int .u8 kd, .int .u8 wh, .int .u8 us, .int .i64 nu, .int .i64 ep, .string sr, .string by_]) := fun o => D1.out.later ((Below.refl _ _).alloc (Nat.le_refl _) _)
  have HP1 : Hid (∀ o, (w1.alloc o).heap[w1.heap.size]? = some o) := fun o => heap_alloc_new w1 o
  have hPb : w.heap.size + 1 + 1 + 1 < w1.heap.size := lt_of_heap D1.out.mo
  have o5 : w1.cell? ⟨w.heap.size + 1, 5, none⟩ = some (.string sr) := cell_of_heap D1.out.op 5
  have o6 : w1.cell? ⟨w.heap.size + 1, 6, none⟩ = some (.string by_) := cell_of_heap D1.out.op 6
  have hne5 := World.new_ne w1 ⟨w.heap.size + 1, 5, none⟩ o5
  have hlt5 := lt_of_heap D1.out.op
  go_wp2_with fail
  refine (small_any sr by_ _ hsr hby).mono ?_
  rintro r w3 ⟨rfl, hb3⟩
  have D3 := Lib.hid ((D1a.out _).later hb3)
  have HP3 := Lib.hid ((hb3.block _ (lt_of_heap (HP1.out _))).trans (HP1.out (.cells #[.string ow, .int .i64 pe, .int .i64 lo, .slice qa qn qc] 80)))
  clear hb3 D1a HP1 o5 o6 hne5 hlt5 D1
  have D4 : Hid (∀ o, EX w (w3.alloc o) a n c #[.int .u8 kd, .int .u8 wh, .int .u8 us, .int .i64 nu, .int .i64 ep, .string sr, .string by_]) := fun o => D3.out.later ((Below.refl _ _).alloc (Nat.le_refl _) _)
  have HP4 : Hid (∀ o, (w3.alloc o).heap[w1.heap.size]? = some (.cells #[.string ow, .int .i64 pe, .int .i64 lo, .slice qa qn qc] 80 (0, 0))) := fun o => (Below.heap_alloc w3 o _ (lt_of_heap HP3.out)).trans HP3.out
  have HA4 : Hid (∀ o, (w3.alloc o).heap[w3.heap.size]? = some o) := fun o => heap_alloc_new w3 o
  have hAb : w1.heap.size < w3.heap.size := lt_of_heap HP3.out
  clear D3 HP3
  go_upto_region 4 with fail
  have E := Lib.hid (D4.out (.cells #[.string (cut sr 60), .string (cut by_ 600)] 33))
  have HP := Lib.hid (HP4.out (.cells #[.string (cut sr 60), .string (cut by_ 600)] 33))
  have HA := Lib.hid (HA4.out (.cells #[.string (cut sr 60), .string (cut by_ 600)] 33))
  clear D4 HP4 HA4
  generalize w3.alloc (.cells #[.string (cut sr 60), .string (cut by_ 600)] 33) = V at *
  have b0 := cell_of_heap E.out.bx 0
  have o1 := cell_of_heap E.out.op 1
  have o2 := cell_of_heap E.out.op 2
  have o3 := cell_of_heap E.out.op 3
  have o4 := cell_of_heap E.out.op 4
  have p0 := cell_of_heap HP.out 0
  have p1 := cell_of_heap HP.out 1
  have p2 := cell_of_heap HP.out 2
  have p3 := cell_of_heap HP.out 3
  have a0 := cell_of_heap HA.out 0
  have a1 := cell_of_heap HA.out 1
  have r0 := cell_of_heap E.out.res 0
  have g0 := frozen_of_heap E.out.res 0
  have r1 := cell_of_heap E.out.res 1
  have g1 := frozen_of_heap E.out.res 1
  have r2 := cell_of_heap E.out.res 2
  have g2 := frozen_of_heap E.out.res 2
  have r3 := cell_of_heap E.out.res 3
  have g3 := frozen_of_heap E.out.res 3
  have m0 := cell_of_heap E.out.mo 0
  have h0 := frozen_of_heap E.out.mo 0
  have hr := Hr.out
  rcases hr with hr | hr
  · rcases hr with hr | hr
    · go_upto_region 5 with fail
      go_region
      go_wp2
      refine bodyPost_ret (v := .tuple #[.agg #[.string ⟨#[]⟩, .string ⟨#[]⟩, .string ⟨#[]⟩, .int .i64 2], .agg #[.slice a n c]]) (by simp [results, Tryz.results21, go_sem, r0, r1, r2, r3, m0]) rfl ?_
      refine (fun hb => ⟨a, n, c, es, rfl, hb, ⟨Hl.out.later hb, fun _ hk => .inl hk⟩, rfl⟩) ?_
      exact (E.out.end1 _ _ _ _ _).drew
    · go_upto_region 5 with fail
      go_region
      go_wp2
      refine bodyPost_ret (v := .tuple #[.agg #[.string ⟨#[]⟩, .string ⟨#[]⟩, .string ⟨#[]⟩, .int .i64 2], .agg #[.slice a n c]]) (by simp [results, Tryz.results21, go_sem, r0, r1, r2, r3, m0]) rfl ?_
      refine (fun hb => ⟨a, n, c, es, rfl, hb, ⟨Hl.out.later hb, fun _ hk => .inl hk⟩, rfl⟩) ?_
      exact (E.out.end1 _ _ _ _ _).drew
  · by_cases h1 : nu < 1
    · go_upto_region 5 with fail
      go_region
      go_wp2
      refine bodyPost_ret (v := .tuple #[.agg #[.string ⟨#[]⟩, .string ⟨#[]⟩, .string ⟨#[]⟩, .int .i64 2], .agg #[.slice a n c]]) (by simp [results, Tryz.results21, go_sem, r0, r1, r2, r3, m0]) rfl ?_
      refine (fun hb => ⟨a, n, c, es, rfl, hb, ⟨Hl.out.later hb, fun _ hk => .inl hk⟩, rfl⟩) ?_
      exact (E.out.end1 _ _ _ _ _).drew
    · by_cases h2 : 9999 < nu
      · go_upto_region 5 with fail
        go_region
        go_wp2
        refine bodyPost_ret (v := .tuple #[.agg #[.string ⟨#[]⟩, .string ⟨#[]⟩, .string ⟨#[]⟩, .int .i64 2], .agg #[.slice a n c]]) (by simp [results, Tryz.results21, go_sem, r0, r1, r2, r3, m0]) rfl ?_
        refine (fun hb => ⟨a, n, c, es, rfl, hb, ⟨Hl.out.later hb, fun _ hk => .inl hk⟩, rfl⟩) ?_
        exact (E.out.end1 _ _ _ _ _).drew
      · go_wp2_with fail
        refine (lNumber_is ep _ hr _).mono ?_
        rintro r w6 ⟨rfl, rfl⟩
        go_upto_region 5 with fail
        go_region
        go_wp2
        refine bodyPost_ret (v := .tuple #[.agg #[.string ⟨#[]⟩, .string ⟨#[]⟩, .string ⟨#[]⟩, .int .i64 2], .agg #[.slice a n c]]) (by simp [results, Tryz.results21, go_sem, r0, r1, r2, r3, m0]) rfl ?_
        refine (fun hb => ⟨a, n, c, es, rfl, hb, ⟨Hl.out.later hb, fun _ hk => .inl hk⟩, rfl⟩) ?_
        exact (E.out.end1 _ _ _ _ _).drew
set_option maxRecDepth 100000 in
set_option maxHeartbeats 3200000 in
theorem ex_low (a : Option Addr) (n c : Nat) (es : List EntT) (kd wh us : Nat) (nu ep : Int) (sr by_ : ByteArray) (o : Option PortT) (w : World) (hl : EntR w a n es) (hn : n ≤ 1000) (hsr : sr.size ≤ 9223372036854775807) (hby : by_.size ≤ 9223372036854775807) (hr1 : 1 ≤ nu) (hr2 : nu ≤ 9999) (he : numB ep = true) (hk : kd % 5 = 0) (hlow : nu ≤ 99) (hus : ((us : Int) % 3) ≠ 0) :
    Calls Tryz.prog 21 #[.agg #[.slice a n c], .agg #[.int .u8 kd, .int .u8 wh, .int .u8 us, .int .i64 nu, .int .i64 ep, .string sr, .string by_]] w (EPost w a es nu (o, ⟨zeroPk, ⟨#[]⟩, 14⟩, 0)) := by
  have hk' : (kd : Int) % 5 = 0 := by omega
  have He := Lib.hid he; clear hk he
  obtain ⟨ow, pe, lo, qa, qn, qc, bi, hgv⟩ := getV_form (findE es nu ep)
  have Hgv := Lib.hid hgv; clear hgv
  have Hl := Lib.hid hl; clear hl
  have D0 := Lib.hid (EX.start w a n c #[.int .u8 kd, .int .u8 wh, .int .u8 us, .int .i64 nu, .int .i64 ep, .string sr, .string by_])
  go_enter Tryz.func21, Tryz.ntmps21
  go_wp2_with fail
  generalize (((w.alloc (.cells #[.slice a n c] 30)).alloc (.cells #[.int .u8 kd, .int .u8 wh, .int .u8 us, .int .i64 nu, .int .i64 ep, .string sr, .string by_] 35)).alloc (.cells #[.string ⟨#[]⟩, .string ⟨#[]⟩, .string ⟨#[]⟩, .int .i64 0] 42)).alloc (.cells #[.slice none 0 0] 30) = W at *
  refine (get_any37 a n c es nu ep W (Hl.out.later D0.out.below) (by omega)).mono ?_
  rintro r w1 ⟨rfl, hb1⟩
  rw [Hgv.out]
  have D1 := Lib.hid (D0.out.later hb1)
  clear hb1 D0 Hgv
  have D1a : Hid (∀ o, EX w (w1.alloc o) a n c #[.int .u8 kd, .int .u8 wh, .int .u8 us, .int .i64 nu, .int .i64 ep, .string sr, .string by_]) := fun o => D1.out.later ((Below.refl _ _).alloc (Nat.le_refl _) _)
  have HP1 : Hid (∀ o, (w1.alloc o).heap[w1.heap.size]? = some o) := fun o => heap_alloc_new w1 o
  have hPb : w.heap.size + 1 + 1 + 1 < w1.heap.size := lt_of_heap D1.out.mo
  have o5 : w1.cell? ⟨w.heap.size + 1, 5, none⟩ = some (.string sr) := cell_of_heap D1.out.op 5
  have o6 : w1.cell? ⟨w.heap.size + 1, 6, none⟩ = some (.string by_) := cell_of_heap D1.out.op 6
  have hne5 := World.new_ne w1 ⟨w.heap.size + 1, 5, none⟩ o5
  have hlt5 := lt_of_heap D1.out.op
  go_wp2_with fail
  refine (small_any sr by_ _ hsr hby).mono ?_
  rintro r w3 ⟨rfl, hb3⟩
  have D3 := Lib.hid ((D1a.out _).later hb3)
  have HP3 := Lib.hid ((hb3.block _ (lt_of_heap (HP1.out _))).trans (HP1.out (.cells #[.string ow, .int .i64 pe, .int .i64 lo, .slice qa qn qc] 80)))
  clear hb3 D1a HP1 o5 o6 hne5 hlt5 D1
  have D4 : Hid (∀ o, EX w (w3.alloc o) a n c #[.int .u8 kd, .int .u8 wh, .int .u8 us, .int .i64 nu, .int .i64 ep, .string sr, .string by_]) := fun o => D3.out.later ((Below.refl _ _).alloc (Nat.le_refl _) _)
  have HP4 : Hid (∀ o, (w3.alloc o).heap[w1.heap.size]? = some (.cells #[.string ow, .int .i64 pe, .int .i64 lo, .slice qa qn qc] 80 (0, 0))) := fun o => (Below.heap_alloc w3 o _ (lt_of_heap HP3.out)).trans HP3.out
  have HA4 : Hid (∀ o, (w3.alloc o).heap[w3.heap.size]? = some o) := fun o => heap_alloc_new w3 o
  have hAb : w1.heap.size < w3.heap.size := lt_of_heap HP3.out
  clear D3 HP3
  go_upto_region 4 with fail
  have E := Lib.hid (D4.out (.cells #[.string (cut sr 60), .string (cut by_ 600)] 33))
  have HP := Lib.hid (HP4.out (.cells #[.string (cut sr 60), .string (cut by_ 600)] 33))
  have HA := Lib.hid (HA4.out (.cells #[.string (cut sr 60), .string (cut by_ 600)] 33))
  clear D4 HP4 HA4
  generalize w3.alloc (.cells #[.string (cut sr 60), .string (cut by_ 600)] 33) = V at *
  have b0 := cell_of_heap E.out.bx 0
  have o1 := cell_of_heap E.out.op 1
  have o2 := cell_of_heap E.out.op 2
  have o3 := cell_of_heap E.out.op 3
  have o4 := cell_of_heap E.out.op 4
  have p0 := cell_of_heap HP.out 0
  have p1 := cell_of_heap HP.out 1
  have p2 := cell_of_heap HP.out 2
  have p3 := cell_of_heap HP.out 3
  have a0 := cell_of_heap HA.out 0
  have a1 := cell_of_heap HA.out 1
  have r0 := cell_of_heap E.out.res 0
  have g0 := frozen_of_heap E.out.res 0
  have r1 := cell_of_heap E.out.res 1
  have g1 := frozen_of_heap E.out.res 1
  have r2 := cell_of_heap E.out.res 2
  have g2 := frozen_of_heap E.out.res 2
  have r3 := cell_of_heap E.out.res 3
  have g3 := frozen_of_heap E.out.res 3
  have m0 := cell_of_heap E.out.mo 0
  have h0 := frozen_of_heap E.out.mo 0
  go_wp2_with fail
  refine (lNumber_is ep _ He.out _).mono ?_
  rintro r w6 ⟨rfl, rfl⟩
  go_upto_region 7 with fail
  go_region
  go_wp2
  refine bodyPost_ret (v := .tuple #[.agg #[.string ⟨#[]⟩, .string ⟨#[]⟩, .string ⟨#[]⟩, .int .i64 14], .agg #[.slice a n c]]) (by simp [results, Tryz.results21, go_sem, r0, r1, r2, r3, m0]) rfl ?_
  refine (fun hb => ⟨a, n, c, es, rfl, hb, ⟨Hl.out.later hb, fun _ hk => .inl hk⟩, rfl⟩) ?_
  exact (E.out.end1 _ _ _ _ _).drew
set_option maxRecDepth 100000 in
set_option maxHeartbeats 3200000 in
theorem ex_busya (a : Option Addr) (n c : Nat) (es : List EntT) (kd wh us : Nat) (nu ep : Int) (sr by_ : ByteArray) (o : Option PortT) (w : World) (hl : EntR w a n es) (hn : n ≤ 1000) (hsr : sr.size ≤ 9223372036854775807) (hby : by_.size ≤ 9223372036854775807) (xn : Int) (ow : ByteArray) (pe lo : Int) (ls : List PackT) (qa : Option Addr) (qn qc : Nat) (hfe : findE es nu ep = some ⟨xn, ⟨ow, pe, lo, ls⟩, qa, qn, qc⟩) (hr1 : 1 ≤ nu) (hr2 : nu ≤ 9999) (he : numB ep = true) (hk : kd % 5 = 0) (hlow : 99 < nu) :
    Calls Tryz.prog 21 #[.agg #[.slice a n c], .agg #[.int .u8 kd, .int .u8 wh, .int .u8 us, .int .i64 nu, .int .i64 ep, .string sr, .string by_]] w (EPost w a es nu (o, ⟨zeroPk, ⟨#[]⟩, 19⟩, 1)) := by
  have hk' : (kd : Int) % 5 = 0 := by omega
  have He := Lib.hid he; clear hk he
  have hgv : getV (findE es nu ep) = .tuple #[.agg #[.string ow, .int .i64 pe, .int .i64 lo, .slice qa qn qc], .bool true] := by rw [hfe]; rfl
  have Hgv := Lib.hid hgv; clear hgv
  have Hl := Lib.hid hl; clear hl
  have D0 := Lib.hid (EX.start w a n c #[.int .u8 kd, .int .u8 wh, .int .u8 us, .int .i64 nu, .int .i64 ep, .string sr, .string by_])
  go_enter Tryz.func21, Tryz.ntmps21
  go_wp2_with fail
  generalize (((w.alloc (.cells #[.slice a n c] 30)).alloc (.cells #[.int .u8 kd, .int .u8 wh, .int .u8 us, .int .i64 nu, .int .i64 ep, .string sr, .string by_] 35)).alloc (.cells #[.string ⟨#[]⟩, .string ⟨#[]⟩, .string ⟨#[]⟩, .int .i64 0] 42)).alloc (.cells #[.slice none 0 0] 30) = W at *
  refine (get_any37 a n c es nu ep W (Hl.out.later D0.out.below) (by omega)).mono ?_
  rintro r w1 ⟨rfl, hb1⟩
  rw [Hgv.out]
  have D1 := Lib.hid (D0.out.later hb1)
  clear hb1 D0 Hgv
  have D1a : Hid (∀ o, EX w (w1.alloc o) a n c #[.int .u8 kd, .int .u8 wh, .int .u8 us, .int .i64 nu, .int .i64 ep, .string sr, .string by_]) := fun o => D1.out.later ((Below.refl _ _).alloc (Nat.le_refl _) _)
  have HP1 : Hid (∀ o, (w1.alloc o).heap[w1.heap.size]? = some o) := fun o => heap_alloc_new w1 o
  have hPb : w.heap.size + 1 + 1 + 1 < w1.heap.size := lt_of_heap D1.out.mo
  have o5 : w1.cell? ⟨w.heap.size + 1, 5, none⟩ = some (.string sr) := cell_of_heap D1.out.op 5
  have o6 : w1.cell? ⟨w.heap.size + 1, 6, none⟩ = some (.string by_) := cell_of_heap D1.out.op 6
  have hne5 := World.new_ne w1 ⟨w.heap.size + 1, 5, none⟩ o5
  have hlt5 := lt_of_heap D1.out.op
  go_wp2_with fail
  refine (small_any sr by_ _ hsr hby).mono ?_
  rintro r w3 ⟨rfl, hb3⟩
  have D3 := Lib.hid ((D1a.out _).later hb3)
  have HP3 := Lib.hid ((hb3.block _ (lt_of_heap (HP1.out _))).trans (HP1.out (.cells #[.string ow, .int .i64 pe, .int .i64 lo, .slice qa qn qc] 80)))
  clear hb3 D1a HP1 o5 o6 hne5 hlt5 D1
  have D4 : Hid (∀ o, EX w (w3.alloc o) a n c #[.int .u8 kd, .int .u8 wh, .int .u8 us, .int .i64 nu, .int .i64 ep, .string sr, .string by_]) := fun o => D3.out.later ((Below.refl _ _).alloc (Nat.le_refl _) _)
  have HP4 : Hid (∀ o, (w3.alloc o).heap[w1.heap.size]? = some (.cells #[.string ow, .int .i64 pe, .int .i64 lo, .slice qa qn qc] 80 (0, 0))) := fun o => (Below.heap_alloc w3 o _ (lt_of_heap HP3.out)).trans HP3.out
  have HA4 : Hid (∀ o, (w3.alloc o).heap[w3.heap.size]? = some o) := fun o => heap_alloc_new w3 o
  have hAb : w1.heap.size < w3.heap.size := lt_of_heap HP3.out
  clear D3 HP3
  go_upto_region 4 with fail
  have E := Lib.hid (D4.out (.cells #[.string (cut sr 60), .string (cut by_ 600)] 33))
  have HP := Lib.hid (HP4.out (.cells #[.string (cut sr 60), .string (cut by_ 600)] 33))
  have HA := Lib.hid (HA4.out (.cells #[.string (cut sr 60), .string (cut by_ 600)] 33))
  clear D4 HP4 HA4
  generalize w3.alloc (.cells #[.string (cut sr 60), .string (cut by_ 600)] 33) = V at *
  clear hfe
  have b0 := cell_of_heap E.out.bx 0
  have o1 := cell_of_heap E.out.op 1
  have o2 := cell_of_heap E.out.op 2
  have o3 := cell_of_heap E.out.op 3
  have o4 := cell_of_heap E.out.op 4
  have p0 := cell_of_heap HP.out 0
  have p1 := cell_of_heap HP.out 1
  have p2 := cell_of_heap HP.out 2
  have p3 := cell_of_heap HP.out 3
  have a0 := cell_of_heap HA.out 0
  have a1 := cell_of_heap HA.out 1
  have r0 := cell_of_heap E.out.res 0
  have g0 := frozen_of_heap E.out.res 0
  have r1 := cell_of_heap E.out.res 1
  have g1 := frozen_of_heap E.out.res 1
  have r2 := cell_of_heap E.out.res 2
  have g2 := frozen_of_heap E.out.res 2
  have r3 := cell_of_heap E.out.res 3
  have g3 := frozen_of_heap E.out.res 3
  have m0 := cell_of_heap E.out.mo 0
  have h0 := frozen_of_heap E.out.mo 0
  go_wp2_with fail
  refine (lNumber_is ep _ He.out _).mono ?_
  rintro r w6 ⟨rfl, rfl⟩
  go_upto_region 9 with fail
  go_region
  go_wp2
  refine bodyPost_ret (v := .tuple #[.agg #[.string ⟨#[]⟩, .string ⟨#[]⟩, .string ⟨#[]⟩, .int .i64 19], .agg #[.slice a n c]]) (by simp [results, Tryz.results21, go_sem, r0, r1, r2, r3, m0]) rfl ?_
  refine (fun hb => ⟨a, n, c, es, rfl, hb, ⟨Hl.out.later hb, fun _ hk => .inl hk⟩, rfl⟩) ?_
  exact (E.out.end1 _ _ _ _ _).drew
set_option maxRecDepth 100000 in
set_option maxHeartbeats 3200000 in
theorem ex_busyb (a : Option Addr) (n c : Nat) (es : List EntT) (kd wh us : Nat) (nu ep : Int) (sr by_ : ByteArray) (o : Option PortT) (w : World) (hl : EntR w a n es) (hn : n ≤ 1000) (hsr : sr.size ≤ 9223372036854775807) (hby : by_.size ≤ 9223372036854775807) (xn : Int) (ow : ByteArray) (pe lo : Int) (ls : List PackT) (qa : Option Addr) (qn qc : Nat) (hfe : findE es nu ep = some ⟨xn, ⟨ow, pe, lo, ls⟩, qa, qn, qc⟩) (hr1 : 1 ≤ nu) (hr2 : nu ≤ 9999) (he : numB ep = true) (hk : kd % 5 = 0) (hus : ((us : Int) % 3) = 0) :
    Calls Tryz.prog 21 #[.agg #[.slice a n c], .agg #[.int .u8 kd, .int .u8 wh, .int .u8 us, .int .i64 nu, .int .i64 ep, .string sr, .string by_]] w (EPost w a es nu (o, ⟨zeroPk, ⟨#[]⟩, 19⟩, 1)) := by
  have hk' : (kd : Int) % 5 = 0 := by omega
  have He := Lib.hid he; clear hk he
  have hgv : getV (findE es nu ep) = .tuple #[.agg #[.string ow, .int .i64 pe, .int .i64 lo, .slice qa qn qc], .bool true] := by rw [hfe]; rfl
  have Hgv := Lib.hid hgv; clear hgv
  have Hl := Lib.hid hl; clear hl
  have D0 := Lib.hid (EX.start w a n c #[.int .u8 kd, .int .u8 wh, .int .u8 us, .int .i64 nu, .int .i64 ep, .string sr, .string by_])
  go_enter Tryz.func21, Tryz.ntmps21
  go_wp2_with fail
  generalize (((w.alloc (.cells #[.slice a n c] 30)).alloc (.cells #[.int .u8 kd, .int .u8 wh, .int .u8 us, .int .i64 nu, .int .i64 ep, .string sr, .string by_] 35)).alloc (.cells #[.string ⟨#[]⟩, .string ⟨#[]⟩, .string ⟨#[]⟩, .int .i64 0] 42)).alloc (.cells #[.slice none 0 0] 30) = W at *
  refine (get_any37 a n c es nu ep W (Hl.out.later D0.out.below) (by omega)).mono ?_
  rintro r w1 ⟨rfl, hb1⟩
  rw [Hgv.out]
  have D1 := Lib.hid (D0.out.later hb1)
  clear hb1 D0 Hgv
  have D1a : Hid (∀ o, EX w (w1.alloc o) a n c #[.int .u8 kd, .int .u8 wh, .int .u8 us, .int .i64 nu, .int .i64 ep, .string sr, .string by_]) := fun o => D1.out.later ((Below.refl _ _).alloc (Nat.le_refl _) _)
  have HP1 : Hid (∀ o, (w1.alloc o).heap[w1.heap.size]? = some o) := fun o => heap_alloc_new w1 o
  have hPb : w.heap.size + 1 + 1 + 1 < w1.heap.size := lt_of_heap D1.out.mo
  have o5 : w1.cell? ⟨w.heap.size + 1, 5, none⟩ = some (.string sr) := cell_of_heap D1.out.op 5
  have o6 : w1.cell? ⟨w.heap.size + 1, 6, none⟩ = some (.string by_) := cell_of_heap D1.out.op 6
  have hne5 := World.new_ne w1 ⟨w.heap.size + 1, 5, none⟩ o5
  have hlt5 := lt_of_heap D1.out.op
  go_wp2_with fail
  refine (small_any sr by_ _ hsr hby).mono ?_
  rintro r w3 ⟨rfl, hb3⟩
  have D3 := Lib.hid ((D1a.out _).later hb3)
  have HP3 := Lib.hid ((hb3.block _ (lt_of_heap (HP1.out _))).trans (HP1.out (.cells #[.string ow, .int .i64 pe, .int .i64 lo, .slice qa qn qc] 80)))
  clear hb3 D1a HP1 o5 o6 hne5 hlt5 D1
  have D4 : Hid (∀ o, EX w (w3.alloc o) a n c #[.int .u8 kd, .int .u8 wh, .int .u8 us, .int .i64 nu, .int .i64 ep, .string sr, .string by_]) := fun o => D3.out.later ((Below.refl _ _).alloc (Nat.le_refl _) _)
  have HP4 : Hid (∀ o, (w3.alloc o).heap[w1.heap.size]? = some (.cells #[.string ow, .int .i64 pe, .int .i64 lo, .slice qa qn qc] 80 (0, 0))) := fun o => (Below.heap_alloc w3 o _ (lt_of_heap HP3.out)).trans HP3.out
  have HA4 : Hid (∀ o, (w3.alloc o).heap[w3.heap.size]? = some o) := fun o => heap_alloc_new w3 o
  have hAb : w1.heap.size < w3.heap.size := lt_of_heap HP3.out
  clear D3 HP3
  go_upto_region 4 with fail
  have E := Lib.hid (D4.out (.cells #[.string (cut sr 60), .string (cut by_ 600)] 33))
  have HP := Lib.hid (HP4.out (.cells #[.string (cut sr 60), .string (cut by_ 600)] 33))
  have HA := Lib.hid (HA4.out (.cells #[.string (cut sr 60), .string (cut by_ 600)] 33))
  clear D4 HP4 HA4
  generalize w3.alloc (.cells #[.string (cut sr 60), .string (cut by_ 600)] 33) = V at *
  clear hfe
  have b0 := cell_of_heap E.out.bx 0
  have o1 := cell_of_heap E.out.op 1
  have o2 := cell_of_heap E.out.op 2
  have o3 := cell_of_heap E.out.op 3
  have o4 := cell_of_heap E.out.op 4
  have p0 := cell_of_heap HP.out 0
  have p1 := cell_of_heap HP.out 1
  have p2 := cell_of_heap HP.out 2
  have p3 := cell_of_heap HP.out 3
  have a0 := cell_of_heap HA.out 0
  have a1 := cell_of_heap HA.out 1
  have r0 := cell_of_heap E.out.res 0
  have g0 := frozen_of_heap E.out.res 0
  have r1 := cell_of_heap E.out.res 1
  have g1 := frozen_of_heap E.out.res 1
  have r2 := cell_of_heap E.out.res 2
  have g2 := frozen_of_heap E.out.res 2
  have r3 := cell_of_heap E.out.res 3
  have g3 := frozen_of_heap E.out.res 3
  have m0 := cell_of_heap E.out.mo 0
  have h0 := frozen_of_heap E.out.mo 0
  by_cases hlow : nu ≤ 99
  · go_wp2_with fail
    refine (lNumber_is ep _ He.out _).mono ?_
    rintro r w6 ⟨rfl, rfl⟩
    go_upto_region 9 with fail
    go_region
    go_wp2
    refine bodyPost_ret (v := .tuple #[.agg #[.string ⟨#[]⟩, .string ⟨#[]⟩, .string ⟨#[]⟩, .int .i64 19], .agg #[.slice a n c]]) (by simp [results, Tryz.results21, go_sem, r0, r1, r2, r3, m0]) rfl ?_
    refine (fun hb => ⟨a, n, c, es, rfl, hb, ⟨Hl.out.later hb, fun _ hk => .inl hk⟩, rfl⟩) ?_
    exact (E.out.end1 _ _ _ _ _).drew
  · go_wp2_with fail
    refine (lNumber_is ep _ He.out _).mono ?_
    rintro r w6 ⟨rfl, rfl⟩
    go_upto_region 9 with fail
    go_region
    go_wp2
    refine bodyPost_ret (v := .tuple #[.agg #[.string ⟨#[]⟩, .string ⟨#[]⟩, .string ⟨#[]⟩, .int .i64 19], .agg #[.slice a n c]]) (by simp [results, Tryz.results21, go_sem, r0, r1, r2, r3, m0]) rfl ?_
    refine (fun hb => ⟨a, n, c, es, rfl, hb, ⟨Hl.out.later hb, fun _ hk => .inl hk⟩, rfl⟩) ?_
    exact (E.out.end1 _ _ _ _ _).drew
set_option maxRecDepth 100000 in
set_option maxHeartbeats 3200000 in
theorem ex_none1 (a : Option Addr) (n c : Nat) (es : List EntT) (kd wh us : Nat) (nu ep : Int) (sr by_ : ByteArray) (o : Option PortT) (w : World) (hl : EntR w a n es) (hn : n ≤ 1000) (hsr : sr.size ≤ 9223372036854775807) (hby : by_.size ≤ 9223372036854775807) (hfe : findE es nu ep = none) (hr1 : 1 ≤ nu) (hr2 : nu ≤ 9999) (he : numB ep = true) (hk : kd % 5 = 1) :
    Calls Tryz.prog 21 #[.agg #[.slice a n c], .agg #[.int .u8 kd, .int .u8 wh, .int .u8 us, .int .i64 nu, .int .i64 ep, .string sr, .string by_]] w (EPost w a es nu (o, ⟨zeroPk, ⟨#[]⟩, 8⟩, 1)) := by
  have hk' : (kd : Int) % 5 = 1 := by omega
  have He := Lib.hid he; clear hk he
  have hgv : getV (findE es nu ep) = .tuple #[.agg #[.string ⟨#[]⟩, .int .i64 0, .int .i64 0, .slice none 0 0], .bool false] := by rw [hfe]; rfl
  clear hfe
  have Hgv := Lib.hid hgv; clear hgv
  have Hl := Lib.hid hl; clear hl
  have D0 := Lib.hid (EX.start w a n c #[.int .u8 kd, .int .u8 wh, .int .u8 us, .int .i64 nu, .int .i64 ep, .string sr, .string by_])
  go_enter Tryz.func21, Tryz.ntmps21
  go_wp2_with fail
  generalize (((w.alloc (.cells #[.slice a n c] 30)).alloc (.cells #[.int .u8 kd, .int .u8 wh, .int .u8 us, .int .i64 nu, .int .i64 ep, .string sr, .string by_] 35)).alloc (.cells #[.string ⟨#[]⟩, .string ⟨#[]⟩, .string ⟨#[]⟩, .int .i64 0] 42)).alloc (.cells #[.slice none 0 0] 30) = W at *
  refine (get_any37 a n c es nu ep W (Hl.out.later D0.out.below) (by omega)).mono ?_
  rintro r w1 ⟨rfl, hb1⟩
  rw [Hgv.out]
  have D1 := Lib.hid (D0.out.later hb1)
  clear hb1 D0 Hgv
  have D1a : Hid (∀ o, EX w (w1.alloc o) a n c #[.int .u8 kd, .int .u8 wh, .int .u8 us, .int .i64 nu, .int .i64 ep, .string sr, .string by_]) := fun o => D1.out.later ((Below.refl _ _).alloc (Nat.le_refl _) _)
  have HP1 : Hid (∀ o, (w1.alloc o).heap[w1.heap.size]? = some o) := fun o => heap_alloc_new w1 o
  have hPb : w.heap.size + 1 + 1 + 1 < w1.heap.size := lt_of_heap D1.out.mo
  have o5 : w1.cell? ⟨w.heap.size + 1, 5, none⟩ = some (.string sr) := cell_of_heap D1.out.op 5
  have o6 : w1.cell? ⟨w.heap.size + 1, 6, none⟩ = some (.string by_) := cell_of_heap D1.out.op 6
  have hne5 := World.new_ne w1 ⟨w.heap.size + 1, 5, none⟩ o5
  have hlt5 := lt_of_heap D1.out.op
  go_wp2_with fail
  refine (small_any sr by_ _ hsr hby).mono ?_
  rintro r w3 ⟨rfl, hb3⟩
  have D3 := Lib.hid ((D1a.out _).later hb3)
  have HP3 := Lib.hid ((hb3.block _ (lt_of_heap (HP1.out _))).trans (HP1.out (.cells #[.string ⟨#[]⟩, .int .i64 0, .int .i64 0, .slice none 0 0] 80)))
  clear hb3 D1a HP1 o5 o6 hne5 hlt5 D1
  have D4 : Hid (∀ o, EX w (w3.alloc o) a n c #[.int .u8 kd, .int .u8 wh, .int .u8 us, .int .i64 nu, .int .i64 ep, .string sr, .string by_]) := fun o => D3.out.later ((Below.refl _ _).alloc (Nat.le_refl _) _)
  have HP4 : Hid (∀ o, (w3.alloc o).heap[w1.heap.size]? = some (.cells #[.string ⟨#[]⟩, .int .i64 0, .int .i64 0, .slice none 0 0] 80 (0, 0))) := fun o => (Below.heap_alloc w3 o _ (lt_of_heap HP3.out)).trans HP3.out
  have HA4 : Hid (∀ o, (w3.alloc o).heap[w3.heap.size]? = some o) := fun o => heap_alloc_new w3 o
  have hAb : w1.heap.size < w3.heap.size := lt_of_heap HP3.out
  clear D3 HP3
  go_upto_region 4 with fail
  have E := Lib.hid (D4.out (.cells #[.string (cut sr 60), .string (cut by_ 600)] 33))
  have HP := Lib.hid (HP4.out (.cells #[.string (cut sr 60), .string (cut by_ 600)] 33))
  have HA := Lib.hid (HA4.out (.cells #[.string (cut sr 60), .string (cut by_ 600)] 33))
  clear D4 HP4 HA4
  generalize w3.alloc (.cells #[.string (cut sr 60), .string (cut by_ 600)] 33) = V at *
  have b0 := cell_of_heap E.out.bx 0
  have o1 := cell_of_heap E.out.op 1
  have o2 := cell_of_heap E.out.op 2
  have o3 := cell_of_heap E.out.op 3
  have o4 := cell_of_heap E.out.op 4
  have p0 := cell_of_heap HP.out 0
  have p1 := cell_of_heap HP.out 1
  have p2 := cell_of_heap HP.out 2
  have p3 := cell_of_heap HP.out 3
  have a0 := cell_of_heap HA.out 0
  have a1 := cell_of_heap HA.out 1
  have r0 := cell_of_heap E.out.res 0
  have g0 := frozen_of_heap E.out.res 0
  have r1 := cell_of_heap E.out.res 1
  have g1 := frozen_of_heap E.out.res 1
  have r2 := cell_of_heap E.out.res 2
  have g2 := frozen_of_heap E.out.res 2
  have r3 := cell_of_heap E.out.res 3
  have g3 := frozen_of_heap E.out.res 3
  have m0 := cell_of_heap E.out.mo 0
  have h0 := frozen_of_heap E.out.mo 0
  go_wp2_with fail
  refine (lNumber_is ep _ He.out _).mono ?_
  rintro r w6 ⟨rfl, rfl⟩
  go_upto_region 15 with fail
  go_region
  go_wp2
  refine bodyPost_ret (v := .tuple #[.agg #[.string ⟨#[]⟩, .string ⟨#[]⟩, .string ⟨#[]⟩, .int .i64 8], .agg #[.slice a n c]]) (by simp [results, Tryz.results21, go_sem, r0, r1, r2, r3, m0]) rfl ?_
  refine (fun hb => ⟨a, n, c, es, rfl, hb, ⟨Hl.out.later hb, fun _ hk => .inl hk⟩, rfl⟩) ?_
  exact (E.out.end1 _ _ _ _ _).drew
set_option maxRecDepth 100000 in
set_option maxHeartbeats 3200000 in
theorem ex_none3 (a : Option Addr) (n c : Nat) (es : List EntT) (kd wh us : Nat) (nu ep : Int) (sr by_ : ByteArray) (o : Option PortT) (w : World) (hl : EntR w a n es) (hn : n ≤ 1000) (hsr : sr.size ≤ 9223372036854775807) (hby : by_.size ≤ 9223372036854775807) (hfe : findE es nu ep = none) (hr1 : 1 ≤ nu) (hr2 : nu ≤ 9999) (he : numB ep = true) (hk : kd % 5 = 3) :
    Calls Tryz.prog 21 #[.agg #[.slice a n c], .agg #[.int .u8 kd, .int .u8 wh, .int .u8 us, .int .i64 nu, .int .i64 ep, .string sr, .string by_]] w (EPost w a es nu (o, ⟨zeroPk, ⟨#[]⟩, 8⟩, 1)) := by
  have hk' : (kd : Int) % 5 = 3 := by omega
  have He := Lib.hid he; clear hk he
  have hgv : getV (findE es nu ep) = .tuple #[.agg #[.string ⟨#[]⟩, .int .i64 0, .int .i64 0, .slice none 0 0], .bool false] := by rw [hfe]; rfl
  clear hfe
  have Hgv := Lib.hid hgv; clear hgv
  have Hl := Lib.hid hl; clear hl
  have D0 := Lib.hid (EX.start w a n c #[.int .u8 kd, .int .u8 wh, .int .u8 us, .int .i64 nu, .int .i64 ep, .string sr, .string by_])
  go_enter Tryz.func21, Tryz.ntmps21
  go_wp2_with fail
  generalize (((w.alloc (.cells #[.slice a n c] 30)).alloc (.cells #[.int .u8 kd, .int .u8 wh, .int .u8 us, .int .i64 nu, .int .i64 ep, .string sr, .string by_] 35)).alloc (.cells #[.string ⟨#[]⟩, .string ⟨#[]⟩, .string ⟨#[]⟩, .int .i64 0] 42)).alloc (.cells #[.slice none 0 0] 30) = W at *
  refine (get_any37 a n c es nu ep W (Hl.out.later D0.out.below) (by omega)).mono ?_
  rintro r w1 ⟨rfl, hb1⟩
  rw [Hgv.out]
  have D1 := Lib.hid (D0.out.later hb1)
  clear hb1 D0 Hgv
  have D1a : Hid (∀ o, EX w (w1.alloc o) a n c #[.int .u8 kd, .int .u8 wh, .int .u8 us, .int .i64 nu, .int .i64 ep, .string sr, .string by_]) := fun o => D1.out.later ((Below.refl _ _).alloc (Nat.le_refl _) _)
  have HP1 : Hid (∀ o, (w1.alloc o).heap[w1.heap.size]? = some o) := fun o => heap_alloc_new w1 o
  have hPb : w.heap.size + 1 + 1 + 1 < w1.heap.size := lt_of_heap D1.out.mo
  have o5 : w1.cell? ⟨w.heap.size + 1, 5, none⟩ = some (.string sr) := cell_of_heap D1.out.op 5
  have o6 : w1.cell? ⟨w.heap.size + 1, 6, none⟩ = some (.string by_) := cell_of_heap D1.out.op 6
  have hne5 := World.new_ne w1 ⟨w.heap.size + 1, 5, none⟩ o5
  have hlt5 := lt_of_heap D1.out.op
  go_wp2_with fail
  refine (small_any sr by_ _ hsr hby).mono ?_
  rintro r w3 ⟨rfl, hb3⟩
  have D3 := Lib.hid ((D1a.out _).later hb3)
  have HP3 := Lib.hid ((hb3.block _ (lt_of_heap (HP1.out _))).trans (HP1.out (.cells #[.string ⟨#[]⟩, .int .i64 0, .int .i64 0, .slice none 0 0] 80)))
  clear hb3 D1a HP1 o5 o6 hne5 hlt5 D1
  have D4 : Hid (∀ o, EX w (w3.alloc o) a n c #[.int .u8 kd, .int .u8 wh, .int .u8 us, .int .i64 nu, .int .i64 ep, .string sr, .string by_]) := fun o => D3.out.later ((Below.refl _ _).alloc (Nat.le_refl _) _)
  have HP4 : Hid (∀ o, (w3.alloc o).heap[w1.heap.size]? = some (.cells #[.string ⟨#[]⟩, .int .i64 0, .int .i64 0, .slice none 0 0] 80 (0, 0))) := fun o => (Below.heap_alloc w3 o _ (lt_of_heap HP3.out)).trans HP3.out
  have HA4 : Hid (∀ o, (w3.alloc o).heap[w3.heap.size]? = some o) := fun o => heap_alloc_new w3 o
  have hAb : w1.heap.size < w3.heap.size := lt_of_heap HP3.out
  clear D3 HP3
  go_upto_region 4 with fail
  have E := Lib.hid (D4.out (.cells #[.string (cut sr 60), .string (cut by_ 600)] 33))
  have HP := Lib.hid (HP4.out (.cells #[.string (cut sr 60), .string (cut by_ 600)] 33))
  have HA := Lib.hid (HA4.out (.cells #[.string (cut sr 60), .string (cut by_ 600)] 33))
  clear D4 HP4 HA4
  generalize w3.alloc (.cells #[.string (cut sr 60), .string (cut by_ 600)] 33) = V at *
  have b0 := cell_of_heap E.out.bx 0
  have o1 := cell_of_heap E.out.op 1
  have o2 := cell_of_heap E.out.op 2
  have o3 := cell_of_heap E.out.op 3
  have o4 := cell_of_heap E.out.op 4
  have p0 := cell_of_heap HP.out 0
  have p1 := cell_of_heap HP.out 1
  have p2 := cell_of_heap HP.out 2
  have p3 := cell_of_heap HP.out 3
  have a0 := cell_of_heap HA.out 0
  have a1 := cell_of_heap HA.out 1
  have r0 := cell_of_heap E.out.res 0
  have g0 := frozen_of_heap E.out.res 0
  have r1 := cell_of_heap E.out.res 1
  have g1 := frozen_of_heap E.out.res 1
  have r2 := cell_of_heap E.out.res 2
  have g2 := frozen_of_heap E.out.res 2
  have r3 := cell_of_heap E.out.res 3
  have g3 := frozen_of_heap E.out.res 3
  have m0 := cell_of_heap E.out.mo 0
  have h0 := frozen_of_heap E.out.mo 0
  go_wp2_with fail
  refine (lNumber_is ep _ He.out _).mono ?_
  rintro r w6 ⟨rfl, rfl⟩
  go_upto_region 15 with fail
  go_region
  go_wp2
  refine bodyPost_ret (v := .tuple #[.agg #[.string ⟨#[]⟩, .string ⟨#[]⟩, .string ⟨#[]⟩, .int .i64 8], .agg #[.slice a n c]]) (by simp [results, Tryz.results21, go_sem, r0, r1, r2, r3, m0]) rfl ?_
  refine (fun hb => ⟨a, n, c, es, rfl, hb, ⟨Hl.out.later hb, fun _ hk => .inl hk⟩, rfl⟩) ?_
  exact (E.out.end1 _ _ _ _ _).drew
set_option maxRecDepth 100000 in
set_option maxHeartbeats 3200000 in
theorem ex_none4 (a : Option Addr) (n c : Nat) (es : List EntT) (kd wh us : Nat) (nu ep : Int) (sr by_ : ByteArray) (o : Option PortT) (w : World) (hl : EntR w a n es) (hn : n ≤ 1000) (hsr : sr.size ≤ 9223372036854775807) (hby : by_.size ≤ 9223372036854775807) (hfe : findE es nu ep = none) (hr1 : 1 ≤ nu) (hr2 : nu ≤ 9999) (he : numB ep = true) (hk : kd % 5 = 4) :
    Calls Tryz.prog 21 #[.agg #[.slice a n c], .agg #[.int .u8 kd, .int .u8 wh, .int .u8 us, .int .i64 nu, .int .i64 ep, .string sr, .string by_]] w (EPost w a es nu (o, ⟨zeroPk, ⟨#[]⟩, 8⟩, 1)) := by
  have hk' : (kd : Int) % 5 = 4 := by omega
  have He := Lib.hid he; clear hk he
  have hgv : getV (findE es nu ep) = .tuple #[.agg #[.string ⟨#[]⟩, .int .i64 0, .int .i64 0, .slice none 0 0], .bool false] := by rw [hfe]; rfl
  clear hfe
  have Hgv := Lib.hid hgv; clear hgv
  have Hl := Lib.hid hl; clear hl
  have D0 := Lib.hid (EX.start w a n c #[.int .u8 kd, .int .u8 wh, .int .u8 us, .int .i64 nu, .int .i64 ep, .string sr, .string by_])
  go_enter Tryz.func21, Tryz.ntmps21
  go_wp2_with fail
  generalize (((w.alloc (.cells #[.slice a n c] 30)).alloc (.cells #[.int .u8 kd, .int .u8 wh, .int .u8 us, .int .i64 nu, .int .i64 ep, .string sr, .string by_] 35)).alloc (.cells #[.string ⟨#[]⟩, .string ⟨#[]⟩, .string ⟨#[]⟩, .int .i64 0] 42)).alloc (.cells #[.slice none 0 0] 30) = W at *
  refine (get_any37 a n c es nu ep W (Hl.out.later D0.out.below) (by omega)).mono ?_
  rintro r w1 ⟨rfl, hb1⟩
  rw [Hgv.out]
  have D1 := Lib.hid (D0.out.later hb1)
  clear hb1 D0 Hgv
  have D1a : Hid (∀ o, EX w (w1.alloc o) a n c #[.int .u8 kd, .int .u8 wh, .int .u8 us, .int .i64 nu, .int .i64 ep, .string sr, .string by_]) := fun o => D1.out.later ((Below.refl _ _).alloc (Nat.le_refl _) _)
  have HP1 : Hid (∀ o, (w1.alloc o).heap[w1.heap.size]? = some o) := fun o => heap_alloc_new w1 o
  have hPb : w.heap.size + 1 + 1 + 1 < w1.heap.size := lt_of_heap D1.out.mo
  have o5 : w1.cell? ⟨w.heap.size + 1, 5, none⟩ = some (.string sr) := cell_of_heap D1.out.op 5
  have o6 : w1.cell? ⟨w.heap.size + 1, 6, none⟩ = some (.string by_) := cell_of_heap D1.out.op 6
  have hne5 := World.new_ne w1 ⟨w.heap.size + 1, 5, none⟩ o5
  have hlt5 := lt_of_heap D1.out.op
  go_wp2_with fail
  refine (small_any sr by_ _ hsr hby).mono ?_
  rintro r w3 ⟨rfl, hb3⟩
  have D3 := Lib.hid ((D1a.out _).later hb3)
  have HP3 := Lib.hid ((hb3.block _ (lt_of_heap (HP1.out _))).trans (HP1.out (.cells #[.string ⟨#[]⟩, .int .i64 0, .int .i64 0, .slice none 0 0] 80)))
  clear hb3 D1a HP1 o5 o6 hne5 hlt5 D1
  have D4 : Hid (∀ o, EX w (w3.alloc o) a n c #[.int .u8 kd, .int .u8 wh, .int .u8 us, .int .i64 nu, .int .i64 ep, .string sr, .string by_]) := fun o => D3.out.later ((Below.refl _ _).alloc (Nat.le_refl _) _)
  have HP4 : Hid (∀ o, (w3.alloc o).heap[w1.heap.size]? = some (.cells #[.string ⟨#[]⟩, .int .i64 0, .int .i64 0, .slice none 0 0] 80 (0, 0))) := fun o => (Below.heap_alloc w3 o _ (lt_of_heap HP3.out)).trans HP3.out
  have HA4 : Hid (∀ o, (w3.alloc o).heap[w3.heap.size]? = some o) := fun o => heap_alloc_new w3 o
  have hAb : w1.heap.size < w3.heap.size := lt_of_heap HP3.out
  clear D3 HP3
  go_upto_region 4 with fail
  have E := Lib.hid (D4.out (.cells #[.string (cut sr 60), .string (cut by_ 600)] 33))
  have HP := Lib.hid (HP4.out (.cells #[.string (cut sr 60), .string (cut by_ 600)] 33))
  have HA := Lib.hid (HA4.out (.cells #[.string (cut sr 60), .string (cut by_ 600)] 33))
  clear D4 HP4 HA4
  generalize w3.alloc (.cells #[.string (cut sr 60), .string (cut by_ 600)] 33) = V at *
  have b0 := cell_of_heap E.out.bx 0
  have o1 := cell_of_heap E.out.op 1
  have o2 := cell_of_heap E.out.op 2
  have o3 := cell_of_heap E.out.op 3
  have o4 := cell_of_heap E.out.op 4
  have p0 := cell_of_heap HP.out 0
  have p1 := cell_of_heap HP.out 1
  have p2 := cell_of_heap HP.out 2
  have p3 := cell_of_heap HP.out 3
  have a0 := cell_of_heap HA.out 0
  have a1 := cell_of_heap HA.out 1
  have r0 := cell_of_heap E.out.res 0
  have g0 := frozen_of_heap E.out.res 0
  have r1 := cell_of_heap E.out.res 1
  have g1 := frozen_of_heap E.out.res 1
  have r2 := cell_of_heap E.out.res 2
  have g2 := frozen_of_heap E.out.res 2
  have r3 := cell_of_heap E.out.res 3
  have g3 := frozen_of_heap E.out.res 3
  have m0 := cell_of_heap E.out.mo 0
  have h0 := frozen_of_heap E.out.mo 0
  go_wp2_with fail
  refine (lNumber_is ep _ He.out _).mono ?_
  rintro r w6 ⟨rfl, rfl⟩
  go_upto_region 15 with fail
  go_region
  go_wp2
  refine bodyPost_ret (v := .tuple #[.agg #[.string ⟨#[]⟩, .string ⟨#[]⟩, .string ⟨#[]⟩, .int .i64 8], .agg #[.slice a n c]]) (by simp [results, Tryz.results21, go_sem, r0, r1, r2, r3, m0]) rfl ?_
  refine (fun hb => ⟨a, n, c, es, rfl, hb, ⟨Hl.out.later hb, fun _ hk => .inl hk⟩, rfl⟩) ?_
  exact (E.out.end1 _ _ _ _ _).drew
end Go.Proofs.YtijfdgoeppehlaaGreatDoor

namespace Go.Proofs.YtijfdgoeppehlaaGreatDoor
open Go.RowKit
attribute [local go_sem ↓] Go.wp_at_zero Go.wp_at_succ

set_option linter.unusedSimpArgs false in
set_option maxRecDepth 100000 in
set_option maxHeartbeats 3200000 in
theorem ex_owner1 (a : Option Addr) (n c : Nat) (es : List EntT) (kd wh us : Nat) (nu ep : Int) (sr by_ : ByteArray) (o : Option PortT) (w : World) (hl : EntR w a n es) (hn : n ≤ 1000) (hsr : sr.size ≤ 9223372036854775807) (hby : by_.size ≤ 9223372036854775807) (xn : Int) (ow : ByteArray) (pe lo : Int) (ls : List PackT) (qa : Option Addr) (qn qc : Nat) (hfe : findE es nu ep = some ⟨xn, ⟨ow, pe, lo, ls⟩, qa, qn, qc⟩) (hr1 : 1 ≤ nu) (hr2 : nu ≤ 9999) (he : numB ep = true) (hk : kd % 5 = 1) (hwh : wh ≤ 255) (hw : ow ≠ whoN wh) :
    Calls Tryz.prog 21 #[.agg #[.slice a n c], .agg #[.int .u8 kd, .int .u8 wh, .int .u8 us, .int .i64 nu, .int .i64 ep, .string sr, .string by_]] w (EPost w a es nu (o, ⟨zeroPk, ⟨#[]⟩, 14⟩, 1)) := by
  have hk' : (kd : Int) % 5 = 1 := by omega
  have He := Lib.hid he; clear hk he
  have hx : (ow.toList == (whoN wh).toList) = false := by rw [str_beq]; exact decide_eq_false hw
  clear hw
  have hgv : getV (findE es nu ep) = .tuple #[.agg #[.string ow, .int .i64 pe, .int .i64 lo, .slice qa qn qc], .bool true] := by rw [hfe]; rfl
  have Hgv := Lib.hid hgv; clear hgv
  have Hl := Lib.hid hl; clear hl
  have D0 := Lib.hid (EX.start w a n c #[.int .u8 kd, .int .u8 wh, .int .u8 us, .int .i64 nu, .int .i64 ep, .string sr, .string by_])
  go_enter Tryz.func21, Tryz.ntmps21
  go_wp2_with fail
  generalize (((w.alloc (.cells #[.slice a n c] 30)).alloc (.cells #[.int .u8 kd, .int .u8 wh, .int .u8 us, .int .i64 nu, .int .i64 ep, .string sr, .string by_] 35)).alloc (.cells #[.string ⟨#[]⟩, .string ⟨#[]⟩, .string ⟨#[]⟩, .int .i64 0] 42)).alloc (.cells #[.slice none 0 0] 30) = W at *
  refine (get_any37 a n c es nu ep W (Hl.out.later D0.out.below) (by omega)).mono ?_
  rintro r w1 ⟨rfl, hb1⟩
  rw [Hgv.out]
  have D1 := Lib.hid (D0.out.later hb1)
  clear hb1 D0 Hgv
  have D1a : Hid (∀ o, EX w (w1.alloc o) a n c #[.int .u8 kd, .int .u8 wh, .int .u8 us, .int .i64 nu, .int .i64 ep, .string sr, .string by_]) := fun o => D1.out.later ((Below.refl _ _).alloc (Nat.le_refl _) _)
  have HP1 : Hid (∀ o, (w1.alloc o).heap[w1.heap.size]? = some o) := fun o => heap_alloc_new w1 o
  have hPb : w.heap.size + 1 + 1 + 1 < w1.heap.size := lt_of_heap D1.out.mo
  have o5 : w1.cell? ⟨w.heap.size + 1, 5, none⟩ = some (.string sr) := cell_of_heap D1.out.op 5
  have o6 : w1.cell? ⟨w.heap.size + 1, 6, none⟩ = some (.string by_) := cell_of_heap D1.out.op 6
  have hne5 := World.new_ne w1 ⟨w.heap.size + 1, 5, none⟩ o5
  have hlt5 := lt_of_heap D1.out.op
  go_wp2_with fail
  refine (small_any sr by_ _ hsr hby).mono ?_
  rintro r w3 ⟨rfl, hb3⟩
  have D3 := Lib.hid ((D1a.out _).later hb3)
  have HP3 := Lib.hid ((hb3.block _ (lt_of_heap (HP1.out _))).trans (HP1.out (.cells #[.string ow, .int .i64 pe, .int .i64 lo, .slice qa qn qc] 80)))
  clear hb3 D1a HP1 o5 o6 hne5 hlt5 D1
  have D4 : Hid (∀ o, EX w (w3.alloc o) a n c #[.int .u8 kd, .int .u8 wh, .int .u8 us, .int .i64 nu, .int .i64 ep, .string sr, .string by_]) := fun o => D3.out.later ((Below.refl _ _).alloc (Nat.le_refl _) _)
  have HP4 : Hid (∀ o, (w3.alloc o).heap[w1.heap.size]? = some (.cells #[.string ow, .int .i64 pe, .int .i64 lo, .slice qa qn qc] 80 (0, 0))) := fun o => (Below.heap_alloc w3 o _ (lt_of_heap HP3.out)).trans HP3.out
  have HA4 : Hid (∀ o, (w3.alloc o).heap[w3.heap.size]? = some o) := fun o => heap_alloc_new w3 o
  have hAb : w1.heap.size < w3.heap.size := lt_of_heap HP3.out
  clear D3 HP3
  go_upto_region 4 with fail
  have E := Lib.hid (D4.out (.cells #[.string (cut sr 60), .string (cut by_ 600)] 33))
  have HP := Lib.hid (HP4.out (.cells #[.string (cut sr 60), .string (cut by_ 600)] 33))
  have HA := Lib.hid (HA4.out (.cells #[.string (cut sr 60), .string (cut by_ 600)] 33))
  clear D4 HP4 HA4
  generalize w3.alloc (.cells #[.string (cut sr 60), .string (cut by_ 600)] 33) = V at *
  clear hfe
  have b0 := cell_of_heap E.out.bx 0
  have o1 := cell_of_heap E.out.op 1
  have o2 := cell_of_heap E.out.op 2
  have o3 := cell_of_heap E.out.op 3
  have o4 := cell_of_heap E.out.op 4
  go_wp2_with fail
  refine (lNumber_is ep _ He.out _).mono ?_
  rintro r w6 ⟨rfl, rfl⟩
  have hp0 : V.cell? ⟨w1.heap.size, 0, none⟩ = some (.string ow) := cell_of_heap HP.out 0
  have ho1 : V.cell? ⟨w.heap.size + 1, 1, none⟩ = some (.int .u8 wh) := cell_of_heap E.out.op 1
  go_upto_region 16 with fail
  have Dd : Hid (V.drew.cell? ⟨w1.heap.size, 0, none⟩ = some (.string ow) ∧ V.drew.cell? ⟨w.heap.size + 1, 1, none⟩ = some (.int .u8 wh)) := ⟨hp0, ho1⟩
  refine wp_region_held_drew (S := (fun w' => w'.cell? ⟨w1.heap.size, 0, none⟩ = some (.string ow) ∧ w'.cell? ⟨w.heap.size + 1, 1, none⟩ = some (.int .u8 wh))) (by kernel_rfl) Dd.out (fun hHeld => ?_)
  refine wpAnyH_take (i := 0) (v := ?_) rfl (by kernel_rfl) (by kernel_rfl) (by kernel_rfl) (fun _ _ _ h => h) (Or.inl ⟨by rfl, ?_⟩) (by assumption) ?_
  rotate_left
  · (intro wx hSw; (try dsimp only at hSw); go_simp <;> with_reducible rfl)
  try simp only [Act.put, List.setIfInBounds_toArray, List.set_cons_zero, List.set_cons_succ, List.getElem_toArray, List.getElem_cons_zero, List.getElem_cons_succ]
  refine wpAnyH_take (i := 1) (v := ?_) rfl (by kernel_rfl) (by kernel_rfl) (by kernel_rfl) (fun _ _ _ h => h) (Or.inl ⟨by rfl, ?_⟩) (by assumption) ?_
  rotate_left
  · (intro wx hSw; (try dsimp only at hSw); go_simp <;> with_reducible rfl)
  try simp only [Act.put, List.setIfInBounds_toArray, List.set_cons_zero, List.set_cons_succ, List.getElem_toArray, List.getElem_cons_zero, List.getElem_cons_succ]
  refine wpAnyH_take (i := 2) (v := ?_) rfl (by kernel_rfl) (by kernel_rfl) (by kernel_rfl) (fun _ _ _ h => h) (Or.inl ⟨by rfl, ?_⟩) (by assumption) ?_
  rotate_left
  · (intro wx hSw; (try dsimp only at hSw); go_simp <;> with_reducible rfl)
  try simp only [Act.put, List.setIfInBounds_toArray, List.set_cons_zero, List.set_cons_succ, List.getElem_toArray, List.getElem_cons_zero, List.getElem_cons_succ]
  refine wpAnyH_take (i := 3) (v := undef) rfl (by kernel_rfl) (by kernel_rfl) (by kernel_rfl) (fun _ _ _ h => h) (Or.inr ⟨by simp [Region.wanted, yielded], rfl⟩) (by assumption) ?_
  try simp only [Act.put, List.setIfInBounds_toArray, List.set_cons_zero, List.set_cons_succ, List.getElem_toArray, List.getElem_cons_zero, List.getElem_cons_succ]
  refine wpAnyH_take (i := 4) (v := undef) rfl (by kernel_rfl) (by kernel_rfl) (by kernel_rfl) (fun _ _ _ h => h) (Or.inr ⟨by simp [Region.wanted, yielded], rfl⟩) (by assumption) ?_
  try simp only [Act.put, List.setIfInBounds_toArray, List.set_cons_zero, List.set_cons_succ, List.getElem_toArray, List.getElem_cons_zero, List.getElem_cons_succ]
  refine wpAnyH_take (i := 5) (v := ?_) rfl (by kernel_rfl) (by kernel_rfl) (by kernel_rfl) (fun _ _ _ h => h) (Or.inl ⟨by rfl, ?_⟩) (by assumption) ?_
  rotate_left
  · (intro wx hSw; (try dsimp only at hSw); go_simp <;> with_reducible rfl)
  try simp only [Act.put, List.setIfInBounds_toArray, List.set_cons_zero, List.set_cons_succ, List.getElem_toArray, List.getElem_cons_zero, List.getElem_cons_succ]
  refine wpAnyH_take (i := 6) (v := ?_) rfl (by kernel_rfl) (by kernel_rfl) (by kernel_rfl) (fun _ _ _ h => h) (Or.inl ⟨by rfl, ?_⟩) (by assumption) ?_
  rotate_left
  · (intro wx hSw; (try dsimp only at hSw); go_simp <;> with_reducible rfl)
  try simp only [Act.put, List.setIfInBounds_toArray, List.set_cons_zero, List.set_cons_succ, List.getElem_toArray, List.getElem_cons_zero, List.getElem_cons_succ]
  refine wpAnyH_take (i := 7) (v := ?_) rfl (by kernel_rfl) (by kernel_rfl) (by kernel_rfl) (fun _ _ _ h => h) (Or.inl ⟨by rfl, ?_⟩) (by assumption) ?_
  rotate_left
  · (intro wx hSw; (try dsimp only at hSw); go_simp <;> with_reducible rfl)
  try simp only [Act.put, List.setIfInBounds_toArray, List.set_cons_zero, List.set_cons_succ, List.getElem_toArray, List.getElem_cons_zero, List.getElem_cons_succ]
  refine wpAnyH_take (i := 8) (v := ?_) rfl (by kernel_rfl) (by kernel_rfl) (by kernel_rfl) (fun _ _ _ h => h) (Or.inl ⟨by rfl, ?_⟩) (by assumption) ?_
  rotate_left
  · (intro wx hSw; (try dsimp only at hSw); go_simp <;> with_reducible rfl)
  try simp only [Act.put, List.setIfInBounds_toArray, List.set_cons_zero, List.set_cons_succ, List.getElem_toArray, List.getElem_cons_zero, List.getElem_cons_succ]
  refine wpAnyH_take (i := 9) (v := ?_) rfl (by kernel_rfl) (by kernel_rfl) (by kernel_rfl) (fun _ _ _ h => h) (Or.inl ⟨by rfl, ?_⟩) (by assumption) ?_
  rotate_left
  · (intro wx hSw; (try dsimp only at hSw); go_simp <;> with_reducible rfl)
  try simp only [Act.put, List.setIfInBounds_toArray, List.set_cons_zero, List.set_cons_succ, List.getElem_toArray, List.getElem_cons_zero, List.getElem_cons_succ]
  refine wpAnyH_take (i := 10) (v := ?_) rfl (by kernel_rfl) (by kernel_rfl) (by kernel_rfl) (fun _ _ _ h => h) (Or.inl ⟨by rfl, ?_⟩) (by assumption) ?_
  rotate_left
  · (intro wx hSw; (try dsimp only at hSw); go_simp <;> with_reducible rfl)
  try simp only [Act.put, List.setIfInBounds_toArray, List.set_cons_zero, List.set_cons_succ, List.getElem_toArray, List.getElem_cons_zero, List.getElem_cons_succ]
  refine wpAnyH_ready (rs := [11]) (by kernel_rfl) (by simp) ?_
  refine AllReadyH.cons rfl (fun K hK => ?_) AllReadyH.nil
  go_simp
  go_at_call 26; refine (who_is wh (whoN wh) rfl _ hwh).mono ?_; rintro r w8 ⟨rfl, hb8⟩; have E8 := Lib.hid (E.out.drew.later hb8); have HP8 := Lib.hid ((hb8.block _ (lt_of_heap HP.out)).trans HP.out); have HA8 := Lib.hid ((hb8.block _ (lt_of_heap HA.out)).trans HA.out); have S1 : Hid (w8.cell? ⟨w1.heap.size, 0, none⟩ = some (.string ow) ∧ w8.cell? ⟨w.heap.size + 1, 1, none⟩ = some (.int .u8 wh)) := ⟨cell_of_heap HP8.out 0, cell_of_heap E8.out.op 1⟩; clear hb8
  have r0 := cell_of_heap E8.out.res 0
  have g0 := frozen_of_heap E8.out.res 0
  have r1 := cell_of_heap E8.out.res 1
  have g1 := frozen_of_heap E8.out.res 1
  have r2 := cell_of_heap E8.out.res 2
  have g2 := frozen_of_heap E8.out.res 2
  have r3 := cell_of_heap E8.out.res 3
  have g3 := frozen_of_heap E8.out.res 3
  have m0 := cell_of_heap E8.out.mo 0
  have h0 := frozen_of_heap E8.out.mo 0
  have b08 := cell_of_heap E8.out.bx 0
  go_wp2_with fail
  refine hK.out _ _ S1.out (fun hHeld2 => ?_)
  clear hK K hHeld
  try simp only [Act.put, List.setIfInBounds_toArray, List.set_cons_zero, List.set_cons_succ, List.getElem_toArray, List.getElem_cons_zero, List.getElem_cons_succ]
  refine wpAnyH_take (i := 12) (v := ?_) rfl (by kernel_rfl) (by kernel_rfl) (by kernel_rfl) (fun _ _ _ h => h) (Or.inl ⟨by rfl, ?_⟩) (by assumption) ?_
  rotate_left
  · (intro wx hSw; (try dsimp only at hSw); go_simp <;> with_reducible rfl)
  try simp only [Act.put, List.setIfInBounds_toArray, List.set_cons_zero, List.set_cons_succ, List.getElem_toArray, List.getElem_cons_zero, List.getElem_cons_succ]
  refine wpAnyH_take (i := 13) (v := ?_) rfl (by kernel_rfl) (by kernel_rfl) (by kernel_rfl) (fun _ _ _ h => h) (Or.inl ⟨by rfl, ?_⟩) (by assumption) ?_
  rotate_left
  · (intro wx hSw; (try dsimp only at hSw); go_simp <;> with_reducible rfl)
  try simp only [Act.put, List.setIfInBounds_toArray, List.set_cons_zero, List.set_cons_succ, List.getElem_toArray, List.getElem_cons_zero, List.getElem_cons_succ]
  refine wpAnyH_take (i := 14) (v := ?_) rfl (by kernel_rfl) (by kernel_rfl) (by kernel_rfl) (fun _ _ _ h => h) (Or.inl ⟨by rfl, ?_⟩) (by assumption) ?_
  rotate_left
  · (intro wx hSw; (try dsimp only at hSw); go_simp <;> with_reducible rfl)
  try simp only [Act.put, List.setIfInBounds_toArray, List.set_cons_zero, List.set_cons_succ, List.getElem_toArray, List.getElem_cons_zero, List.getElem_cons_succ]
  refine wpAnyH_done (by kernel_rfl) ?_ _
  clear hp0 ho1
  go_wp2_with fail
  go_region
  go_wp2
  refine bodyPost_ret (v := .tuple #[.agg #[.string ⟨#[]⟩, .string ⟨#[]⟩, .string ⟨#[]⟩, .int .i64 14], .agg #[.slice a n c]]) (by simp [results, Tryz.results21, go_sem, r0, r1, r2, r3, m0]) rfl ?_
  refine (fun hb => ⟨a, n, c, es, rfl, hb, ⟨Hl.out.later hb, fun _ hk => .inl hk⟩, rfl⟩) ?_
  exact (E8.out.end1 _ _ _ _ _).drew
set_option maxRecDepth 100000 in
set_option maxHeartbeats 3200000 in
theorem ex_owner3 (a : Option Addr) (n c : Nat) (es : List EntT) (kd wh us : Nat) (nu ep : Int) (sr by_ : ByteArray) (o : Option PortT) (w : World) (hl : EntR w a n es) (hn : n ≤ 1000) (hsr : sr.size ≤ 9223372036854775807) (hby : by_.size ≤ 9223372036854775807) (xn : Int) (ow : ByteArray) (pe lo : Int) (ls : List PackT) (qa : Option Addr) (qn qc : Nat) (hfe : findE es nu ep = some ⟨xn, ⟨ow, pe, lo, ls⟩, qa, qn, qc⟩) (hr1 : 1 ≤ nu) (hr2 : nu ≤ 9999) (he : numB ep = true) (hk : kd % 5 = 3) (hwh : wh ≤ 255) (hw : ow ≠ whoN wh) :
    Calls Tryz.prog 21 #[.agg #[.slice a n c], .agg #[.int .u8 kd, .int .u8 wh, .int .u8 us, .int .i64 nu, .int .i64 ep, .string sr, .string by_]] w (EPost w a es nu (o, ⟨zeroPk, ⟨#[]⟩, 14⟩, 1)) := by
  have hk' : (kd : Int) % 5 = 3 := by omega
  have He := Lib.hid he; clear hk he
  have hx : (ow.toList == (whoN wh).toList) = false := by rw [str_beq]; exact decide_eq_false hw
  clear hw
  have hgv : getV (findE es nu ep) = .tuple #[.agg #[.string ow, .int .i64 pe, .int .i64 lo, .slice qa qn qc], .bool true] := by rw [hfe]; rfl
  have Hgv := Lib.hid hgv; clear hgv
  have Hl := Lib.hid hl; clear hl
  have D0 := Lib.hid (EX.start w a n c #[.int .u8 kd, .int .u8 wh, .int .u8 us, .int .i64 nu, .int .i64 ep, .string sr, .string by_])
  go_enter Tryz.func21, Tryz.ntmps21
  go_wp2_with fail
  generalize (((w.alloc (.cells #[.slice a n c] 30)).alloc (.cells #[.int .u8 kd, .int .u8 wh, .int .u8 us, .int .i64 nu, .int .i64 ep, .string sr, .string by_] 35)).alloc (.cells #[.string ⟨#[]⟩, .string ⟨#[]⟩, .string ⟨#[]⟩, .int .i64 0] 42)).alloc (.cells #[.slice none 0 0] 30) = W at *
  refine (get_any37 a n c es nu ep W (Hl.out.later D0.out.below) (by omega)).mono ?_
  rintro r w1 ⟨rfl, hb1⟩
  rw [Hgv.out]
  have D1 := Lib.hid (D0.out.later hb1)
  clear hb1 D0 Hgv
  have D1a : Hid (∀ o, EX w (w1.alloc o) a n c #[.int .u8 kd, .int .u8 wh, .int .u8 us, .int .i64 nu, .int .i64 ep, .string sr, .string by_]) := fun o => D1.out.later ((Below.refl _ _).alloc (Nat.le_refl _) _)
  have HP1 : Hid (∀ o, (w1.alloc o).heap[w1.heap.size]? = some o) := fun o => heap_alloc_new w1 o
  have hPb : w.heap.size + 1 + 1 + 1 < w1.heap.size := lt_of_heap D1.out.mo
  have o5 : w1.cell? ⟨w.heap.size + 1, 5, none⟩ = some (.string sr) := cell_of_heap D1.out.op 5
  have o6 : w1.cell? ⟨w.heap.size + 1, 6, none⟩ = some (.string by_) := cell_of_heap D1.out.op 6
  have hne5 := World.new_ne w1 ⟨w.heap.size + 1, 5, none⟩ o5
  have hlt5 := lt_of_heap D1.out.op
  go_wp2_with fail
  refine (small_any sr by_ _ hsr hby).mono ?_
  rintro r w3 ⟨rfl, hb3⟩
  have D3 := Lib.hid ((D1a.out _).later hb3)
  have HP3 := Lib.hid ((hb3.block _ (lt_of_heap (HP1.out _))).trans (HP1.out (.cells #[.string ow, .int .i64 pe, .int .i64 lo, .slice qa qn qc] 80)))
  clear hb3 D1a HP1 o5 o6 hne5 hlt5 D1
  have D4 : Hid (∀ o, EX w (w3.alloc o) a n c #[.int .u8 kd, .int .u8 wh, .int .u8 us, .int .i64 nu, .int .i64 ep, .string sr, .string by_]) := fun o => D3.out.later ((Below.refl _ _).alloc (Nat.le_refl _) _)
  have HP4 : Hid (∀ o, (w3.alloc o).heap[w1.heap.size]? = some (.cells #[.string ow, .int .i64 pe, .int .i64 lo, .slice qa qn qc] 80 (0, 0))) := fun o => (Below.heap_alloc w3 o _ (lt_of_heap HP3.out)).trans HP3.out
  have HA4 : Hid (∀ o, (w3.alloc o).heap[w3.heap.size]? = some o) := fun o => heap_alloc_new w3 o
  have hAb : w1.heap.size < w3.heap.size := lt_of_heap HP3.out
  clear D3 HP3
  go_upto_region 4 with fail
  have E := Lib.hid (D4.out (.cells #[.string (cut sr 60), .string (cut by_ 600)] 33))
  have HP := Lib.hid (HP4.out (.cells #[.string (cut sr 60), .string (cut by_ 600)] 33))
  have HA := Lib.hid (HA4.out (.cells #[.string (cut sr 60), .string (cut by_ 600)] 33))
  clear D4 HP4 HA4
  generalize w3.alloc (.cells #[.string (cut sr 60), .string (cut by_ 600)] 33) = V at *
  clear hfe
  have b0 := cell_of_heap E.out.bx 0
  have o1 := cell_of_heap E.out.op 1
  have o2 := cell_of_heap E.out.op 2
  have o3 := cell_of_heap E.out.op 3
  have o4 := cell_of_heap E.out.op 4
  go_wp2_with fail
  refine (lNumber_is ep _ He.out _).mono ?_
  rintro r w6 ⟨rfl, rfl⟩
  have hp0 : V.cell? ⟨w1.heap.size, 0, none⟩ = some (.string ow) := cell_of_heap HP.out 0
  have ho1 : V.cell? ⟨w.heap.size + 1, 1, none⟩ = some (.int .u8 wh) := cell_of_heap E.out.op 1
  go_upto_region 16 with fail
  go_region_held3 (fun w' => w'.cell? ⟨w1.heap.size, 0, none⟩ = some (.string ow) ∧ w'.cell? ⟨w.heap.size + 1, 1, none⟩ = some (.int .u8 wh)) (first | with_reducible exact S1.out | with_reducible exact ⟨hp0, ho1⟩ | go_keep)
    (first
      | (go_at_call 26; refine (who_is wh (whoN wh) rfl _ hwh).mono ?_; rintro r w8 ⟨rfl, hb8⟩; have E8 := Lib.hid (E.out.drew.later hb8); have HP8 := Lib.hid ((hb8.block _ (lt_of_heap HP.out)).trans HP.out); have HA8 := Lib.hid ((hb8.block _ (lt_of_heap HA.out)).trans HA.out); have S1 : Hid (w8.cell? ⟨w1.heap.size, 0, none⟩ = some (.string ow) ∧ w8.cell? ⟨w.heap.size + 1, 1, none⟩ = some (.int .u8 wh)) := ⟨cell_of_heap HP8.out 0, cell_of_heap E8.out.op 1⟩; clear hb8)
      | fail)
  clear hp0 ho1
  clear b0 o1 o2 o3 o4
  have b0 := cell_of_heap E8.out.bx 0
  have r0 := cell_of_heap E8.out.res 0
  have g0 := frozen_of_heap E8.out.res 0
  have r1 := cell_of_heap E8.out.res 1
  have g1 := frozen_of_heap E8.out.res 1
  have r2 := cell_of_heap E8.out.res 2
  have g2 := frozen_of_heap E8.out.res 2
  have r3 := cell_of_heap E8.out.res 3
  have g3 := frozen_of_heap E8.out.res 3
  have m0 := cell_of_heap E8.out.mo 0
  have h0 := frozen_of_heap E8.out.mo 0
  go_wp2_with fail
  go_region
  go_wp2
  refine bodyPost_ret (v := .tuple #[.agg #[.string ⟨#[]⟩, .string ⟨#[]⟩, .string ⟨#[]⟩, .int .i64 14], .agg #[.slice a n c]]) (by simp [results, Tryz.results21, go_sem, r0, r1, r2, r3, m0]) rfl ?_
  refine (fun hb => ⟨a, n, c, es, rfl, hb, ⟨Hl.out.later hb, fun _ hk => .inl hk⟩, rfl⟩) ?_
  exact (E8.out.end1 _ _ _ _ _).drew
set_option maxRecDepth 100000 in
set_option maxHeartbeats 3200000 in
theorem ex_empty (a : Option Addr) (n c : Nat) (es : List EntT) (kd wh us : Nat) (nu ep : Int) (sr by_ : ByteArray) (o : Option PortT) (w : World) (hl : EntR w a n es) (hn : n ≤ 1000) (hsr : sr.size ≤ 9223372036854775807) (hby : by_.size ≤ 9223372036854775807) (xn : Int) (ow : ByteArray) (pe lo : Int) (ls : List PackT) (qa : Option Addr) (qn qc : Nat) (hfe : findE es nu ep = some ⟨xn, ⟨ow, pe, lo, ls⟩, qa, qn, qc⟩) (hr1 : 1 ≤ nu) (hr2 : nu ≤ 9999) (he : numB ep = true) (hk : kd % 5 = 3) (hwh : wh ≤ 255) (hw : whoN wh = ow) (hq0 : qn = 0) :
    Calls Tryz.prog 21 #[.agg #[.slice a n c], .agg #[.int .u8 kd, .int .u8 wh, .int .u8 us, .int .i64 nu, .int .i64 ep, .string sr, .string by_]] w (EPost w a es nu (o, ⟨zeroPk, ⟨#[]⟩, 19⟩, 1)) := by
  have hk' : (kd : Int) % 5 = 3 := by omega
  have He := Lib.hid he; clear hk he
  have Hw := Lib.hid hw; clear hw
  have Hq0 := Lib.hid hq0; clear hq0
  have hgv : getV (findE es nu ep) = .tuple #[.agg #[.string ow, .int .i64 pe, .int .i64 lo, .slice qa qn qc], .bool true] := by rw [hfe]; rfl
  have Hgv := Lib.hid hgv; clear hgv
  have Hl := Lib.hid hl; clear hl
  have D0 := Lib.hid (EX.start w a n c #[.int .u8 kd, .int .u8 wh, .int .u8 us, .int .i64 nu, .int .i64 ep, .string sr, .string by_])
  go_enter Tryz.func21, Tryz.ntmps21
  go_wp2_with fail
  generalize (((w.alloc (.cells #[.slice a n c] 30)).alloc (.cells #[.int .u8 kd, .int .u8 wh, .int .u8 us, .int .i64 nu, .int .i64 ep, .string sr, .string by_] 35)).alloc (.cells #[.string ⟨#[]⟩, .string ⟨#[]⟩, .string ⟨#[]⟩, .int .i64 0] 42)).alloc (.cells #[.slice none 0 0] 30) = W at *
  refine (get_any37 a n c es nu ep W (Hl.out.later D0.out.below) (by omega)).mono ?_
  rintro r w1 ⟨rfl, hb1⟩
  rw [Hgv.out]
  have D1 := Lib.hid (D0.out.later hb1)
  clear hb1 D0 Hgv
  have D1a : Hid (∀ o, EX w (w1.alloc o) a n c #[.int .u8 kd, .int .u8 wh, .int .u8 us, .int .i64 nu, .int .i64 ep, .string sr, .string by_]) := fun o => D1.out.later ((Below.refl _ _).alloc (Nat.le_refl _) _)
  have HP1 : Hid (∀ o, (w1.alloc o).heap[w1.heap.size]? = some o) := fun o => heap_alloc_new w1 o
  have hPb : w.heap.size + 1 + 1 + 1 < w1.heap.size := lt_of_heap D1.out.mo
  have o5 : w1.cell? ⟨w.heap.size + 1, 5, none⟩ = some (.string sr) := cell_of_heap D1.out.op 5
  have o6 : w1.cell? ⟨w.heap.size + 1, 6, none⟩ = some (.string by_) := cell_of_heap D1.out.op 6
  have hne5 := World.new_ne w1 ⟨w.heap.size + 1, 5, none⟩ o5
  have hlt5 := lt_of_heap D1.out.op
  go_wp2_with fail
  refine (small_any sr by_ _ hsr hby).mono ?_
  rintro r w3 ⟨rfl, hb3⟩
  have D3 := Lib.hid ((D1a.out _).later hb3)
  have HP3 := Lib.hid ((hb3.block _ (lt_of_heap (HP1.out _))).trans (HP1.out (.cells #[.string ow, .int .i64 pe, .int .i64 lo, .slice qa qn qc] 80)))
  clear hb3 D1a HP1 o5 o6 hne5 hlt5 D1
  have D4 : Hid (∀ o, EX w (w3.alloc o) a n c #[.int .u8 kd, .int .u8 wh, .int .u8 us, .int .i64 nu, .int .i64 ep, .string sr, .string by_]) := fun o => D3.out.later ((Below.refl _ _).alloc (Nat.le_refl _) _)
  have HP4 : Hid (∀ o, (w3.alloc o).heap[w1.heap.size]? = some (.cells #[.string ow, .int .i64 pe, .int .i64 lo, .slice qa qn qc] 80 (0, 0))) := fun o => (Below.heap_alloc w3 o _ (lt_of_heap HP3.out)).trans HP3.out
  have HA4 : Hid (∀ o, (w3.alloc o).heap[w3.heap.size]? = some o) := fun o => heap_alloc_new w3 o
  have hAb : w1.heap.size < w3.heap.size := lt_of_heap HP3.out
  clear D3 HP3
  go_upto_region 4 with fail
  have E := Lib.hid (D4.out (.cells #[.string (cut sr 60), .string (cut by_ 600)] 33))
  have HP := Lib.hid (HP4.out (.cells #[.string (cut sr 60), .string (cut by_ 600)] 33))
  have HA := Lib.hid (HA4.out (.cells #[.string (cut sr 60), .string (cut by_ 600)] 33))
  clear D4 HP4 HA4
  generalize w3.alloc (.cells #[.string (cut sr 60), .string (cut by_ 600)] 33) = V at *
  clear hfe
  have b0 := cell_of_heap E.out.bx 0
  have o1 := cell_of_heap E.out.op 1
  have o2 := cell_of_heap E.out.op 2
  have o3 := cell_of_heap E.out.op 3
  have o4 := cell_of_heap E.out.op 4
  go_wp2_with fail
  refine (lNumber_is ep _ He.out _).mono ?_
  rintro r w6 ⟨rfl, rfl⟩
  have hp0 : V.cell? ⟨w1.heap.size, 0, none⟩ = some (.string ow) := cell_of_heap HP.out 0
  have ho1 : V.cell? ⟨w.heap.size + 1, 1, none⟩ = some (.int .u8 wh) := cell_of_heap E.out.op 1
  go_upto_region 16 with fail
  go_region_held3 (fun w' => w'.cell? ⟨w1.heap.size, 0, none⟩ = some (.string ow) ∧ w'.cell? ⟨w.heap.size + 1, 1, none⟩ = some (.int .u8 wh)) (first | with_reducible exact S1.out | with_reducible exact ⟨hp0, ho1⟩ | go_keep)
    (first
      | (go_at_call 26; refine (who_is wh ow Hw.out _ hwh).mono ?_; rintro r w8 ⟨rfl, hb8⟩; have E8 := Lib.hid (E.out.drew.later hb8); have HP8 := Lib.hid ((hb8.block _ (lt_of_heap HP.out)).trans HP.out); have HA8 := Lib.hid ((hb8.block _ (lt_of_heap HA.out)).trans HA.out); have S1 : Hid (w8.cell? ⟨w1.heap.size, 0, none⟩ = some (.string ow) ∧ w8.cell? ⟨w.heap.size + 1, 1, none⟩ = some (.int .u8 wh)) := ⟨cell_of_heap HP8.out 0, cell_of_heap E8.out.op 1⟩; clear hb8)
      | fail)
  clear hp0 ho1
  clear b0 o1 o2 o3 o4
  have hq0 : ((qn : Int) == 0) = true := by rw [Hq0.out]; rfl
  have b0 := cell_of_heap E8.out.bx 0
  have p0 := cell_of_heap HP8.out 0
  have p1 := cell_of_heap HP8.out 1
  have p2 := cell_of_heap HP8.out 2
  have p3 := cell_of_heap HP8.out 3
  have r0 := cell_of_heap E8.out.res 0
  have g0 := frozen_of_heap E8.out.res 0
  have r1 := cell_of_heap E8.out.res 1
  have g1 := frozen_of_heap E8.out.res 1
  have r2 := cell_of_heap E8.out.res 2
  have g2 := frozen_of_heap E8.out.res 2
  have r3 := cell_of_heap E8.out.res 3
  have g3 := frozen_of_heap E8.out.res 3
  have m0 := cell_of_heap E8.out.mo 0
  have h0 := frozen_of_heap E8.out.mo 0
  go_wp2_with fail
  go_region
  go_wp2
  refine bodyPost_ret (v := .tuple #[.agg #[.string ⟨#[]⟩, .string ⟨#[]⟩, .string ⟨#[]⟩, .int .i64 19], .agg #[.slice a n c]]) (by simp [results, Tryz.results21, go_sem, r0, r1, r2, r3, m0]) rfl ?_
  refine (fun hb => ⟨a, n, c, es, rfl, hb, ⟨Hl.out.later hb, fun _ hk => .inl hk⟩, rfl⟩) ?_
  exact (E8.out.end1 _ _ _ _ _).drew
end Go.Proofs.YtijfdgoeppehlaaGreatDoor

namespace Go.Proofs.YtijfdgoeppehlaaGreatDoor
open Go.RowKit
attribute [local go_sem ↓] Go.wp_at_zero Go.wp_at_succ

set_option maxRecDepth 100000 in
set_option maxHeartbeats 3200000 in
theorem ex_none2 (a : Option Addr) (n c : Nat) (es : List EntT) (kd wh us : Nat) (nu ep : Int) (sr by_ : ByteArray) (o : Option PortT) (w : World) (hl : EntR w a n es) (hn : n ≤ 1000) (hsr : sr.size ≤ 9223372036854775807) (hby : by_.size ≤ 9223372036854775807) (hfe : findE es nu ep = none) (hr1 : 1 ≤ nu) (hr2 : nu ≤ 9999) (he : numB ep = true) (hk : kd % 5 = 2) (hq : packE ⟨cut sr 60, cut by_ 600⟩ = 0) :
    Calls Tryz.prog 21 #[.agg #[.slice a n c], .agg #[.int .u8 kd, .int .u8 wh, .int .u8 us, .int .i64 nu, .int .i64 ep, .string sr, .string by_]] w (EPost w a es nu (o, ⟨zeroPk, ⟨#[]⟩, 8⟩, 1)) := by
  have hk' : (kd : Int) % 5 = 2 := by omega
  have He := Lib.hid he; clear hk he
  have Hq := Lib.hid hq; clear hq
  have hcs : (cut sr 60).size ≤ 9223372036854775807 := by have := (cut_size sr 60).2; omega
  have hcb : (cut by_ 600).size ≤ 9223372036854775807 := by have := (cut_size by_ 600).2; omega
  have hgv : getV (findE es nu ep) = .tuple #[.agg #[.string ⟨#[]⟩, .int .i64 0, .int .i64 0, .slice none 0 0], .bool false] := by rw [hfe]; rfl
  clear hfe
  have Hgv := Lib.hid hgv; clear hgv
  have Hl := Lib.hid hl; clear hl
  have D0 := Lib.hid (EX.start w a n c #[.int .u8 kd, .int .u8 wh, .int .u8 us, .int .i64 nu, .int .i64 ep, .string sr, .string by_])
  go_enter Tryz.func21, Tryz.ntmps21
  go_wp2_with fail
  generalize (((w.alloc (.cells #[.slice a n c] 30)).alloc (.cells #[.int .u8 kd, .int .u8 wh, .int .u8 us, .int .i64 nu, .int .i64 ep, .string sr, .string by_] 35)).alloc (.cells #[.string ⟨#[]⟩, .string ⟨#[]⟩, .string ⟨#[]⟩, .int .i64 0] 42)).alloc (.cells #[.slice none 0 0] 30) = W at *
  refine (get_any37 a n c es nu ep W (Hl.out.later D0.out.below) (by omega)).mono ?_
  rintro r w1 ⟨rfl, hb1⟩
  rw [Hgv.out]
  have D1 := Lib.hid (D0.out.later hb1)
  clear hb1 D0 Hgv
  have D1a : Hid (∀ o, EX w (w1.alloc o) a n c #[.int .u8 kd, .int .u8 wh, .int .u8 us, .int .i64 nu, .int .i64 ep, .string sr, .string by_]) := fun o => D1.out.later ((Below.refl _ _).alloc (Nat.le_refl _) _)
  have HP1 : Hid (∀ o, (w1.alloc o).heap[w1.heap.size]? = some o) := fun o => heap_alloc_new w1 o
  have hPb : w.heap.size + 1 + 1 + 1 < w1.heap.size := lt_of_heap D1.out.mo
  have o5 : w1.cell? ⟨w.heap.size + 1, 5, none⟩ = some (.string sr) := cell_of_heap D1.out.op 5
  have o6 : w1.cell? ⟨w.heap.size + 1, 6, none⟩ = some (.string by_) := cell_of_heap D1.out.op 6
  have hne5 := World.new_ne w1 ⟨w.heap.size + 1, 5, none⟩ o5
  have hlt5 := lt_of_heap D1.out.op
  go_wp2_with fail
  refine (small_any sr by_ _ hsr hby).mono ?_
  rintro r w3 ⟨rfl, hb3⟩
  have D3 := Lib.hid ((D1a.out _).later hb3)
  have HP3 := Lib.hid ((hb3.block _ (lt_of_heap (HP1.out _))).trans (HP1.out (.cells #[.string ⟨#[]⟩, .int .i64 0, .int .i64 0, .slice none 0 0] 80)))
  clear hb3 D1a HP1 o5 o6 hne5 hlt5 D1
  have D4 : Hid (∀ o, EX w (w3.alloc o) a n c #[.int .u8 kd, .int .u8 wh, .int .u8 us, .int .i64 nu, .int .i64 ep, .string sr, .string by_]) := fun o => D3.out.later ((Below.refl _ _).alloc (Nat.le_refl _) _)
  have HP4 : Hid (∀ o, (w3.alloc o).heap[w1.heap.size]? = some (.cells #[.string ⟨#[]⟩, .int .i64 0, .int .i64 0, .slice none 0 0] 80 (0, 0))) := fun o => (Below.heap_alloc w3 o _ (lt_of_heap HP3.out)).trans HP3.out
  have HA4 : Hid (∀ o, (w3.alloc o).heap[w3.heap.size]? = some o) := fun o => heap_alloc_new w3 o
  have hAb : w1.heap.size < w3.heap.size := lt_of_heap HP3.out
  clear D3 HP3
  go_upto_region 4 with fail
  have E := Lib.hid (D4.out (.cells #[.string (cut sr 60), .string (cut by_ 600)] 33))
  have HP := Lib.hid (HP4.out (.cells #[.string (cut sr 60), .string (cut by_ 600)] 33))
  have HA := Lib.hid (HA4.out (.cells #[.string (cut sr 60), .string (cut by_ 600)] 33))
  clear D4 HP4 HA4
  generalize w3.alloc (.cells #[.string (cut sr 60), .string (cut by_ 600)] 33) = V at *
  have b0 := cell_of_heap E.out.bx 0
  have o1 := cell_of_heap E.out.op 1
  have o2 := cell_of_heap E.out.op 2
  have o3 := cell_of_heap E.out.op 3
  have o4 := cell_of_heap E.out.op 4
  have a0 := cell_of_heap HA.out 0
  have a1 := cell_of_heap HA.out 1
  go_wp2_with fail
  refine (lNumber_is ep _ He.out _).mono ?_
  rintro r w6 ⟨rfl, rfl⟩
  go_wp2_with fail
  refine (lPack_is _ _ 0 Hq.out _ hcs hcb).mono ?_
  rintro r w7 ⟨rfl, hb7⟩
  have E7 := Lib.hid (E.out.later hb7)
  have HA7 := Lib.hid ((hb7.block _ (lt_of_heap HA.out)).trans HA.out)
  have HP7 := Lib.hid ((hb7.block _ (lt_of_heap HP.out)).trans HP.out)
  clear hb7 b0 o1 o2 o3 o4 a0 a1
  have b0 := cell_of_heap E7.out.bx 0
  have r0 := cell_of_heap E7.out.res 0
  have g0 := frozen_of_heap E7.out.res 0
  have r1 := cell_of_heap E7.out.res 1
  have g1 := frozen_of_heap E7.out.res 1
  have r2 := cell_of_heap E7.out.res 2
  have g2 := frozen_of_heap E7.out.res 2
  have r3 := cell_of_heap E7.out.res 3
  have g3 := frozen_of_heap E7.out.res 3
  have m0 := cell_of_heap E7.out.mo 0
  have h0 := frozen_of_heap E7.out.mo 0
  go_upto_region 15 with fail
  go_region
  go_wp2
  refine bodyPost_ret (v := .tuple #[.agg #[.string ⟨#[]⟩, .string ⟨#[]⟩, .string ⟨#[]⟩, .int .i64 8], .agg #[.slice a n c]]) (by simp [results, Tryz.results21, go_sem, r0, r1, r2, r3, m0]) rfl ?_
  refine (fun hb => ⟨a, n, c, es, rfl, hb, ⟨Hl.out.later hb, fun _ hk => .inl hk⟩, rfl⟩) ?_
  exact (E7.out.end1 _ _ _ _ _).drew
set_option maxRecDepth 100000 in
set_option maxHeartbeats 3200000 in
theorem ex_pack (a : Option Addr) (n c : Nat) (es : List EntT) (kd wh us : Nat) (nu ep : Int) (sr by_ : ByteArray) (o : Option PortT) (w : World) (hl : EntR w a n es) (hn : n ≤ 1000) (hsr : sr.size ≤ 9223372036854775807) (hby : by_.size ≤ 9223372036854775807) (hr1 : 1 ≤ nu) (hr2 : nu ≤ 9999) (he : numB ep = true) (hk : kd % 5 = 2) (q : Nat) (hq : packE ⟨cut sr 60, cut by_ 600⟩ = q) (h0 : q ≠ 0) :
    Calls Tryz.prog 21 #[.agg #[.slice a n c], .agg #[.int .u8 kd, .int .u8 wh, .int .u8 us, .int .i64 nu, .int .i64 ep, .string sr, .string by_]] w (EPost w a es nu (o, ⟨zeroPk, ⟨#[]⟩, q⟩, 0)) := by
  have hk' : (kd : Int) % 5 = 2 := by omega
  have He := Lib.hid he; clear hk he
  have Hq := Lib.hid hq; clear hq
  have hq1 : ((q : Int) != 0) = true := bne_iff_ne.2 (by omega)
  have hq2 : ((q : Int) == 0) = false := beq_eq_false_iff_ne.2 (by omega)
  clear h0
  have hcs : (cut sr 60).size ≤ 9223372036854775807 := by have := (cut_size sr 60).2; omega
  have hcb : (cut by_ 600).size ≤ 9223372036854775807 := by have := (cut_size by_ 600).2; omega
  obtain ⟨ow, pe, lo, qa, qn, qc, bi, hgv⟩ := getV_form (findE es nu ep)
  have Hgv := Lib.hid hgv; clear hgv
  have Hl := Lib.hid hl; clear hl
  have D0 := Lib.hid (EX.start w a n c #[.int .u8 kd, .int .u8 wh, .int .u8 us, .int .i64 nu, .int .i64 ep, .string sr, .string by_])
  go_enter Tryz.func21, Tryz.ntmps21
  go_wp2_with fail
  generalize (((w.alloc (.cells #[.slice a n c] 30)).alloc (.cells #[.int .u8 kd, .int .u8 wh, .int .u8 us, .int .i64 nu, .int .i64 ep, .string sr, .string by_] 35)).alloc (.cells #[.string ⟨#[]⟩, .string ⟨#[]⟩, .string ⟨#[]⟩, .int .i64 0] 42)).alloc (.cells #[.slice none 0 0] 30) = W at *
  refine (get_any37 a n c es nu ep W (Hl.out.later D0.out.below) (by omega)).mono ?_
  rintro r w1 ⟨rfl, hb1⟩
  rw [Hgv.out]
  have D1 := Lib.hid (D0.out.later hb1)
  clear hb1 D0 Hgv
  have D1a : Hid (∀ o, EX w (w1.alloc o) a n c #[.int .u8 kd, .int .u8 wh, .int .u8 us, .int .i64 nu, .int .i64 ep, .string sr, .string by_]) := fun o => D1.out.later ((Below.refl _ _).alloc (Nat.le_refl _) _)
  have HP1 : Hid (∀ o, (w1.alloc o).heap[w1.heap.size]? = some o) := fun o => heap_alloc_new w1 o
  have hPb : w.heap.size + 1 + 1 + 1 < w1.heap.size := lt_of_heap D1.out.mo
  have o5 : w1.cell? ⟨w.heap.size + 1, 5, none⟩ = some (.string sr) := cell_of_heap D1.out.op 5
  have o6 : w1.cell? ⟨w.heap.size + 1, 6, none⟩ = some (.string by_) := cell_of_heap D1.out.op 6
  have hne5 := World.new_ne w1 ⟨w.heap.size + 1, 5, none⟩ o5
  have hlt5 := lt_of_heap D1.out.op
  go_wp2_with fail
  refine (small_any sr by_ _ hsr hby).mono ?_
  rintro r w3 ⟨rfl, hb3⟩
  have D3 := Lib.hid ((D1a.out _).later hb3)
  have HP3 := Lib.hid ((hb3.block _ (lt_of_heap (HP1.out _))).trans (HP1.out (.cells #[.string ow, .int .i64 pe, .int .i64 lo, .slice qa qn qc] 80)))
  clear hb3 D1a HP1 o5 o6 hne5 hlt5 D1
  have D4 : Hid (∀ o, EX w (w3.alloc o) a n c #[.int .u8 kd, .int .u8 wh, .int .u8 us, .int .i64 nu, .int .i64 ep, .string sr, .string by_]) := fun o => D3.out.later ((Below.refl _ _).alloc (Nat.le_refl _) _)
  have HP4 : Hid (∀ o, (w3.alloc o).heap[w1.heap.size]? = some (.cells #[.string ow, .int .i64 pe, .int .i64 lo, .slice qa qn qc] 80 (0, 0))) := fun o => (Below.heap_alloc w3 o _ (lt_of_heap HP3.out)).trans HP3.out
  have HA4 : Hid (∀ o, (w3.alloc o).heap[w3.heap.size]? = some o) := fun o => heap_alloc_new w3 o
  have hAb : w1.heap.size < w3.heap.size := lt_of_heap HP3.out
  clear D3 HP3
  go_upto_region 4 with fail
  have E := Lib.hid (D4.out (.cells #[.string (cut sr 60), .string (cut by_ 600)] 33))
  have HP := Lib.hid (HP4.out (.cells #[.string (cut sr 60), .string (cut by_ 600)] 33))
  have HA := Lib.hid (HA4.out (.cells #[.string (cut sr 60), .string (cut by_ 600)] 33))
  clear D4 HP4 HA4
  generalize w3.alloc (.cells #[.string (cut sr 60), .string (cut by_ 600)] 33) = V at *
  have b0 := cell_of_heap E.out.bx 0
  have o1 := cell_of_heap E.out.op 1
  have o2 := cell_of_heap E.out.op 2
  have o3 := cell_of_heap E.out.op 3
  have o4 := cell_of_heap E.out.op 4
  have a0 := cell_of_heap HA.out 0
  have a1 := cell_of_heap HA.out 1
  go_wp2_with fail
  refine (lNumber_is ep _ He.out _).mono ?_
  rintro r w6 ⟨rfl, rfl⟩
  go_wp2_with fail
  refine (lPack_is _ _ q Hq.out _ hcs hcb).mono ?_
  rintro r w7 ⟨rfl, hb7⟩
  have E7 := Lib.hid (E.out.later hb7)
  have HA7 := Lib.hid ((hb7.block _ (lt_of_heap HA.out)).trans HA.out)
  have HP7 := Lib.hid ((hb7.block _ (lt_of_heap HP.out)).trans HP.out)
  clear hb7 b0 o1 o2 o3 o4 a0 a1
  have q0 : w7.cell? ⟨w.heap.size, 0, none⟩ = some (.slice a n c) := cell_of_heap E7.out.bx 0
  have q1 : w7.cell? ⟨w3.heap.size, 0, none⟩ = some (.string (cut sr 60)) := cell_of_heap HA7.out 0
  have q2 : w7.cell? ⟨w3.heap.size, 1, none⟩ = some (.string (cut by_ 600)) := cell_of_heap HA7.out 1
  have hne1 : w3.heap.size ≠ w.heap.size + 1 + 1 := by omega
  have hne2 : w3.heap.size ≠ w.heap.size + 1 + 1 + 1 := by omega
  go_upto_region 13 with fail
  go_region_held3 (fun w' => w'.cell? ⟨w.heap.size, 0, none⟩ = some (.slice a n c) ∧ w'.cell? ⟨w3.heap.size, 0, none⟩ = some (.string (cut sr 60)) ∧ w'.cell? ⟨w3.heap.size, 1, none⟩ = some (.string (cut by_ 600))) (first | with_reducible exact S1.out | with_reducible exact ⟨q0, q1, q2⟩ | with_reducible exact ⟨cell_set4 S1.out.1 (by omega) _ _ _ _, cell_set4 S1.out.2.1 (by omega) _ _ _ _, cell_set4 S1.out.2.2 (by omega) _ _ _ _⟩ | with_reducible exact ⟨cell_set1 (cell_set4 S1.out.1 (by omega) _ _ _ _) (by omega) _, cell_set1 (cell_set4 S1.out.2.1 (by omega) _ _ _ _) (by omega) _, cell_set1 (cell_set4 S1.out.2.2 (by omega) _ _ _ _) (by omega) _⟩ | go_keep)
    (first
      | (go_at_call 44; refine (lPack_is _ _ q Hq.out _ hcs hcb).mono ?_; rintro r w8 ⟨rfl, hb8⟩; have E8 := Lib.hid (E7.out.drew.later hb8); have HA8 := Lib.hid ((hb8.block _ (lt_of_heap HA7.out)).trans HA7.out); have S1 : Hid (w8.cell? ⟨w.heap.size, 0, none⟩ = some (.slice a n c) ∧ w8.cell? ⟨w3.heap.size, 0, none⟩ = some (.string (cut sr 60)) ∧ w8.cell? ⟨w3.heap.size, 1, none⟩ = some (.string (cut by_ 600))) := ⟨cell_of_heap E8.out.bx 0, cell_of_heap HA8.out 0, cell_of_heap HA8.out 1⟩; clear hb8; have r0 := cell_of_heap E8.out.res 0; have g0 := frozen_of_heap E8.out.res 0; have r1 := cell_of_heap E8.out.res 1; have g1 := frozen_of_heap E8.out.res 1; have r2 := cell_of_heap E8.out.res 2; have g2 := frozen_of_heap E8.out.res 2; have r3 := cell_of_heap E8.out.res 3; have g3 := frozen_of_heap E8.out.res 3; have m0 := cell_of_heap E8.out.mo 0; have h0 := frozen_of_heap E8.out.mo 0)
      | fail)
  go_wp2
  refine bodyPost_ret (v := .tuple #[.agg #[.string ⟨#[]⟩, .string ⟨#[]⟩, .string ⟨#[]⟩, .int .i64 q], .agg #[.slice a n c]]) (by simp [results, Tryz.results21, go_sem, r0, r1, r2, r3, m0]) rfl ?_
  refine (fun hb => ⟨a, n, c, es, rfl, hb, ⟨Hl.out.later hb, fun _ hk => .inl hk⟩, rfl⟩) ?_
  exact E8.out.end1 _ _ _ _ _
end Go.Proofs.YtijfdgoeppehlaaGreatDoor

namespace Go.Proofs.YtijfdgoeppehlaaGreatDoor
open Go.RowKit
attribute [local go_sem ↓] Go.wp_at_zero Go.wp_at_succ

set_option maxRecDepth 100000 in
set_option maxHeartbeats 3200000 in
theorem ex_text (a : Option Addr) (n c : Nat) (es : List EntT) (kd wh us : Nat) (nu ep : Int) (sr by_ : ByteArray) (o : Option PortT) (w : World) (hl : EntR w a n es) (hn : n ≤ 1000) (hsr : sr.size ≤ 9223372036854775807) (hby : by_.size ≤ 9223372036854775807) (xn : Int) (ow : ByteArray) (pe lo : Int) (ls : List PackT) (qa : Option Addr) (qn qc : Nat) (hfe : findE es nu ep = some ⟨xn, ⟨ow, pe, lo, ls⟩, qa, qn, qc⟩) (hr1 : 1 ≤ nu) (hr2 : nu ≤ 9999) (he : numB ep = true) (hk : kd % 5 = 4) (hps : PSl w qa qn ls) (how : ow.size ≤ 64) (hck : checkQ ⟨ow, pe, lo, ls⟩ = 0) :
    Calls Tryz.prog 21 #[.agg #[.slice a n c], .agg #[.int .u8 kd, .int .u8 wh, .int .u8 us, .int .i64 nu, .int .i64 ep, .string sr, .string by_]] w (EPost w a es nu (o, ⟨zeroPk, strOf (encQB ⟨ow, pe, lo, ls⟩), 0⟩, 1)) := by
  have hk' : (kd : Int) % 5 = 4 := by omega
  have He := Lib.hid he; clear hk he
  have Hps := Lib.hid hps; clear hps
  have Hck := Lib.hid hck; clear hck
  have hgv : getV (findE es nu ep) = .tuple #[.agg #[.string ow, .int .i64 pe, .int .i64 lo, .slice qa qn qc], .bool true] := by rw [hfe]; rfl
  have Hgv := Lib.hid hgv; clear hgv
  have Hl := Lib.hid hl; clear hl
  have D0 := Lib.hid (EX.start w a n c #[.int .u8 kd, .int .u8 wh, .int .u8 us, .int .i64 nu, .int .i64 ep, .string sr, .string by_])
  go_enter Tryz.func21, Tryz.ntmps21
  go_wp2_with fail
  generalize (((w.alloc (.cells #[.slice a n c] 30)).alloc (.cells #[.int .u8 kd, .int .u8 wh, .int .u8 us, .int .i64 nu, .int .i64 ep, .string sr, .string by_] 35)).alloc (.cells #[.string ⟨#[]⟩, .string ⟨#[]⟩, .string ⟨#[]⟩, .int .i64 0] 42)).alloc (.cells #[.slice none 0 0] 30) = W at *
  refine (get_any37 a n c es nu ep W (Hl.out.later D0.out.below) (by omega)).mono ?_
  rintro r w1 ⟨rfl, hb1⟩
  rw [Hgv.out]
  have D1 := Lib.hid (D0.out.later hb1)
  clear hb1 D0 Hgv
  have D1a : Hid (∀ o, EX w (w1.alloc o) a n c #[.int .u8 kd, .int .u8 wh, .int .u8 us, .int .i64 nu, .int .i64 ep, .string sr, .string by_]) := fun o => D1.out.later ((Below.refl _ _).alloc (Nat.le_refl _) _)
  have HP1 : Hid (∀ o, (w1.alloc o).heap[w1.heap.size]? = some o) := fun o => heap_alloc_new w1 o
  have hPb : w.heap.size + 1 + 1 + 1 < w1.heap.size := lt_of_heap D1.out.mo
  have o5 : w1.cell? ⟨w.heap.size + 1, 5, none⟩ = some (.string sr) := cell_of_heap D1.out.op 5
  have o6 : w1.cell? ⟨w.heap.size + 1, 6, none⟩ = some (.string by_) := cell_of_heap D1.out.op 6
  have hne5 := World.new_ne w1 ⟨w.heap.size + 1, 5, none⟩ o5
  have hlt5 := lt_of_heap D1.out.op
  go_wp2_with fail
  refine (small_any sr by_ _ hsr hby).mono ?_
  rintro r w3 ⟨rfl, hb3⟩
  have D3 := Lib.hid ((D1a.out _).later hb3)
  have HP3 := Lib.hid ((hb3.block _ (lt_of_heap (HP1.out _))).trans (HP1.out (.cells #[.string ow, .int .i64 pe, .int .i64 lo, .slice qa qn qc] 80)))
  clear hb3 D1a HP1 o5 o6 hne5 hlt5 D1
  have D4 : Hid (∀ o, EX w (w3.alloc o) a n c #[.int .u8 kd, .int .u8 wh, .int .u8 us, .int .i64 nu, .int .i64 ep, .string sr, .string by_]) := fun o => D3.out.later ((Below.refl _ _).alloc (Nat.le_refl _) _)
  have HP4 : Hid (∀ o, (w3.alloc o).heap[w1.heap.size]? = some (.cells #[.string ow, .int .i64 pe, .int .i64 lo, .slice qa qn qc] 80 (0, 0))) := fun o => (Below.heap_alloc w3 o _ (lt_of_heap HP3.out)).trans HP3.out
  have HA4 : Hid (∀ o, (w3.alloc o).heap[w3.heap.size]? = some o) := fun o => heap_alloc_new w3 o
  have hAb : w1.heap.size < w3.heap.size := lt_of_heap HP3.out
  clear D3 HP3
  go_upto_region 4 with fail
  have E := Lib.hid (D4.out (.cells #[.string (cut sr 60), .string (cut by_ 600)] 33))
  have HP := Lib.hid (HP4.out (.cells #[.string (cut sr 60), .string (cut by_ 600)] 33))
  have HA := Lib.hid (HA4.out (.cells #[.string (cut sr 60), .string (cut by_ 600)] 33))
  clear D4 HP4 HA4
  generalize w3.alloc (.cells #[.string (cut sr 60), .string (cut by_ 600)] 33) = V at *
  clear hfe
  have b0 := cell_of_heap E.out.bx 0
  have o1 := cell_of_heap E.out.op 1
  have o2 := cell_of_heap E.out.op 2
  have o3 := cell_of_heap E.out.op 3
  have o4 := cell_of_heap E.out.op 4
  go_wp2_with fail
  refine (lNumber_is ep _ He.out _).mono ?_
  rintro r w6 ⟨rfl, rfl⟩
  have hp0 : V.cell? ⟨w1.heap.size, 0, none⟩ = some (.string ow) := cell_of_heap HP.out 0
  have ho1 : V.cell? ⟨w.heap.size + 1, 1, none⟩ = some (.int .u8 wh) := cell_of_heap E.out.op 1
  go_upto_region 16 with fail
  go_quiet (fail)
  clear b0 o1 o2 o3 o4 hp0 ho1
  have q0 : V.cell? ⟨w.heap.size, 0, none⟩ = some (.slice a n c) := cell_of_heap E.out.bx 0
  have q1 : V.cell? ⟨w1.heap.size, 0, none⟩ = some (.string ow) := cell_of_heap HP.out 0
  have q2 : V.cell? ⟨w1.heap.size, 1, none⟩ = some (.int .i64 pe) := cell_of_heap HP.out 1
  have q3 : V.cell? ⟨w1.heap.size, 2, none⟩ = some (.int .i64 lo) := cell_of_heap HP.out 2
  have q4 : V.cell? ⟨w1.heap.size, 3, none⟩ = some (.slice qa qn qc) := cell_of_heap HP.out 3
  go_upto_region 21 with fail
  go_region_held3 (fun w' => w'.cell? ⟨w.heap.size, 0, none⟩ = some (.slice a n c) ∧ w'.cell? ⟨w1.heap.size, 0, none⟩ = some (.string ow) ∧ w'.cell? ⟨w1.heap.size, 1, none⟩ = some (.int .i64 pe) ∧ w'.cell? ⟨w1.heap.size, 2, none⟩ = some (.int .i64 lo) ∧ w'.cell? ⟨w1.heap.size, 3, none⟩ = some (.slice qa qn qc)) (first | with_reducible exact S1.out | with_reducible exact ⟨q0, q1, q2, q3, q4⟩ | with_reducible exact ⟨cell_set4 S1.out.1 (by omega) _ _ _ _, cell_set4 S1.out.2.1 (by omega) _ _ _ _, cell_set4 S1.out.2.2.1 (by omega) _ _ _ _, cell_set4 S1.out.2.2.2.1 (by omega) _ _ _ _, cell_set4 S1.out.2.2.2.2 (by omega) _ _ _ _⟩ | with_reducible exact ⟨cell_set1 (cell_set4 S1.out.1 (by omega) _ _ _ _) (by omega) _, cell_set1 (cell_set4 S1.out.2.1 (by omega) _ _ _ _) (by omega) _, cell_set1 (cell_set4 S1.out.2.2.1 (by omega) _ _ _ _) (by omega) _, cell_set1 (cell_set4 S1.out.2.2.2.1 (by omega) _ _ _ _) (by omega) _, cell_set1 (cell_set4 S1.out.2.2.2.2 (by omega) _ _ _ _) (by omega) _⟩ | go_keep)
    (first
      | (go_at_call 25; refine (lEncode_any ow pe lo qa qn qc ls _ (Hps.out.later (E.out.drewN _).below) how Hck.out).mono ?_; rintro r w8 ⟨rfl, hb8⟩; have E8 := Lib.hid ((E.out.drewN _).later hb8); have HP8 := Lib.hid ((hb8.block _ (lt_of_heap HP.out)).trans HP.out); have S1 : Hid (w8.cell? ⟨w.heap.size, 0, none⟩ = some (.slice a n c) ∧ w8.cell? ⟨w1.heap.size, 0, none⟩ = some (.string ow) ∧ w8.cell? ⟨w1.heap.size, 1, none⟩ = some (.int .i64 pe) ∧ w8.cell? ⟨w1.heap.size, 2, none⟩ = some (.int .i64 lo) ∧ w8.cell? ⟨w1.heap.size, 3, none⟩ = some (.slice qa qn qc)) := ⟨cell_of_heap E8.out.bx 0, cell_of_heap HP8.out 0, cell_of_heap HP8.out 1, cell_of_heap HP8.out 2, cell_of_heap HP8.out 3⟩; clear hb8; have r0 := cell_of_heap E8.out.res 0; have g0 := frozen_of_heap E8.out.res 0; have r1 := cell_of_heap E8.out.res 1; have g1 := frozen_of_heap E8.out.res 1; have r2 := cell_of_heap E8.out.res 2; have g2 := frozen_of_heap E8.out.res 2; have r3 := cell_of_heap E8.out.res 3; have g3 := frozen_of_heap E8.out.res 3; have m0 := cell_of_heap E8.out.mo 0; have h0 := frozen_of_heap E8.out.mo 0)
      | fail)
  go_wp2
  refine bodyPost_ret (v := .tuple #[.agg #[.string ⟨#[]⟩, .string ⟨#[]⟩, .string (strOf (encQB ⟨ow, pe, lo, ls⟩)), .int .i64 0], .agg #[.slice a n c]]) (by simp [results, Tryz.results21, go_sem, r0, r1, r2, r3, m0]) rfl ?_
  refine (fun hb => ⟨a, n, c, es, rfl, hb, ⟨Hl.out.later hb, fun _ hk => .inl hk⟩, rfl⟩) ?_
  exact E8.out.end1 _ _ _ _ _
end Go.Proofs.YtijfdgoeppehlaaGreatDoor

namespace Go.Proofs.YtijfdgoeppehlaaGreatDoor
open Go.RowKit
attribute [local go_sem ↓] Go.wp_at_zero Go.wp_at_succ

set_option linter.unusedSimpArgs false in
set_option maxRecDepth 100000 in
set_option maxHeartbeats 3200000 in
theorem ex_close (a : Option Addr) (n c : Nat) (es : List EntT) (kd wh us : Nat) (nu ep : Int) (sr by_ : ByteArray) (w : World) (hl : EntR w a n es) (hn : n ≤ 1000) (hsr : sr.size ≤ 9223372036854775807) (hby : by_.size ≤ 9223372036854775807) (xn : Int) (ow : ByteArray) (pe lo : Int) (ls : List PackT) (qa : Option Addr) (qn qc : Nat) (hfe : findE es nu ep = some ⟨xn, ⟨ow, pe, lo, ls⟩, qa, qn, qc⟩) (hr1 : 1 ≤ nu) (hr2 : nu ≤ 9999) (he : numB ep = true) (hk : kd % 5 = 1) (hwh : wh ≤ 255) (hw : whoN wh = ow) :
    Calls Tryz.prog 21 #[.agg #[.slice a n c], .agg #[.int .u8 kd, .int .u8 wh, .int .u8 us, .int .i64 nu, .int .i64 ep, .string sr, .string by_]] w (EPost w a es nu (none, ⟨zeroPk, ⟨#[]⟩, 0⟩, 2)) := by
  have hk' : (kd : Int) % 5 = 1 := by omega
  have He := Lib.hid he; clear hk he
  have Hw := Lib.hid hw; clear hw
  have hgv : getV (findE es nu ep) = .tuple #[.agg #[.string ow, .int .i64 pe, .int .i64 lo, .slice qa qn qc], .bool true] := by rw [hfe]; rfl
  have Hgv := Lib.hid hgv; clear hgv
  have Hl := Lib.hid hl; clear hl
  have D0 := Lib.hid (EX.start w a n c #[.int .u8 kd, .int .u8 wh, .int .u8 us, .int .i64 nu, .int .i64 ep, .string sr, .string by_])
  go_enter Tryz.func21, Tryz.ntmps21
  go_wp2_with fail
  generalize (((w.alloc (.cells #[.slice a n c] 30)).alloc (.cells #[.int .u8 kd, .int .u8 wh, .int .u8 us, .int .i64 nu, .int .i64 ep, .string sr, .string by_] 35)).alloc (.cells #[.string ⟨#[]⟩, .string ⟨#[]⟩, .string ⟨#[]⟩, .int .i64 0] 42)).alloc (.cells #[.slice none 0 0] 30) = W at *
  refine (get_any37 a n c es nu ep W (Hl.out.later D0.out.below) (by omega)).mono ?_
  rintro r w1 ⟨rfl, hb1⟩
  rw [Hgv.out]
  have D1 := Lib.hid (D0.out.later hb1)
  clear hb1 D0 Hgv
  have D1a : Hid (∀ o, EX w (w1.alloc o) a n c #[.int .u8 kd, .int .u8 wh, .int .u8 us, .int .i64 nu, .int .i64 ep, .string sr, .string by_]) := fun o => D1.out.later ((Below.refl _ _).alloc (Nat.le_refl _) _)
  have HP1 : Hid (∀ o, (w1.alloc o).heap[w1.heap.size]? = some o) := fun o => heap_alloc_new w1 o
  have hPb : w.heap.size + 1 + 1 + 1 < w1.heap.size := lt_of_heap D1.out.mo
  have o5 : w1.cell? ⟨w.heap.size + 1, 5, none⟩ = some (.string sr) := cell_of_heap D1.out.op 5
  have o6 : w1.cell? ⟨w.heap.size + 1, 6, none⟩ = some (.string by_) := cell_of_heap D1.out.op 6
  have hne5 := World.new_ne w1 ⟨w.heap.size + 1, 5, none⟩ o5
  have hlt5 := lt_of_heap D1.out.op
  go_wp2_with fail
  refine (small_any sr by_ _ hsr hby).mono ?_
  rintro r w3 ⟨rfl, hb3⟩
  have D3 := Lib.hid ((D1a.out _).later hb3)
  have HP3 := Lib.hid ((hb3.block _ (lt_of_heap (HP1.out _))).trans (HP1.out (.cells #[.string ow, .int .i64 pe, .int .i64 lo, .slice qa qn qc] 80)))
  clear hb3 D1a HP1 o5 o6 hne5 hlt5 D1
  have D4 : Hid (∀ o, EX w (w3.alloc o) a n c #[.int .u8 kd, .int .u8 wh, .int .u8 us, .int .i64 nu, .int .i64 ep, .string sr, .string by_]) := fun o => D3.out.later ((Below.refl _ _).alloc (Nat.le_refl _) _)
  have HP4 : Hid (∀ o, (w3.alloc o).heap[w1.heap.size]? = some (.cells #[.string ow, .int .i64 pe, .int .i64 lo, .slice qa qn qc] 80 (0, 0))) := fun o => (Below.heap_alloc w3 o _ (lt_of_heap HP3.out)).trans HP3.out
  have HA4 : Hid (∀ o, (w3.alloc o).heap[w3.heap.size]? = some o) := fun o => heap_alloc_new w3 o
  have hAb : w1.heap.size < w3.heap.size := lt_of_heap HP3.out
  clear D3 HP3
  go_upto_region 4 with fail
  have E := Lib.hid (D4.out (.cells #[.string (cut sr 60), .string (cut by_ 600)] 33))
  have HP := Lib.hid (HP4.out (.cells #[.string (cut sr 60), .string (cut by_ 600)] 33))
  have HA := Lib.hid (HA4.out (.cells #[.string (cut sr 60), .string (cut by_ 600)] 33))
  clear D4 HP4 HA4
  generalize w3.alloc (.cells #[.string (cut sr 60), .string (cut by_ 600)] 33) = V at *
  clear hfe
  have b0 := cell_of_heap E.out.bx 0
  have o1 := cell_of_heap E.out.op 1
  have o2 := cell_of_heap E.out.op 2
  have o3 := cell_of_heap E.out.op 3
  have o4 := cell_of_heap E.out.op 4
  go_wp2_with fail
  refine (lNumber_is ep _ He.out _).mono ?_
  rintro r w6 ⟨rfl, rfl⟩
  have hp0 : V.cell? ⟨w1.heap.size, 0, none⟩ = some (.string ow) := cell_of_heap HP.out 0
  have ho1 : V.cell? ⟨w.heap.size + 1, 1, none⟩ = some (.int .u8 wh) := cell_of_heap E.out.op 1
  go_upto_region 16 with fail
  have Dd : Hid (V.drew.cell? ⟨w1.heap.size, 0, none⟩ = some (.string ow) ∧ V.drew.cell? ⟨w.heap.size + 1, 1, none⟩ = some (.int .u8 wh)) := ⟨hp0, ho1⟩
  refine wp_region_held_drew (S := (fun w' => w'.cell? ⟨w1.heap.size, 0, none⟩ = some (.string ow) ∧ w'.cell? ⟨w.heap.size + 1, 1, none⟩ = some (.int .u8 wh))) (by kernel_rfl) Dd.out (fun hHeld => ?_)
  refine wpAnyH_take (i := 0) (v := ?_) rfl (by kernel_rfl) (by kernel_rfl) (by kernel_rfl) (fun _ _ _ h => h) (Or.inl ⟨by rfl, ?_⟩) (by assumption) ?_
  rotate_left
  · (intro wx hSw; (try dsimp only at hSw); go_simp <;> with_reducible rfl)
  try simp only [Act.put, List.setIfInBounds_toArray, List.set_cons_zero, List.set_cons_succ, List.getElem_toArray, List.getElem_cons_zero, List.getElem_cons_succ]
  refine wpAnyH_take (i := 1) (v := ?_) rfl (by kernel_rfl) (by kernel_rfl) (by kernel_rfl) (fun _ _ _ h => h) (Or.inl ⟨by rfl, ?_⟩) (by assumption) ?_
  rotate_left
  · (intro wx hSw; (try dsimp only at hSw); go_simp <;> with_reducible rfl)
  try simp only [Act.put, List.setIfInBounds_toArray, List.set_cons_zero, List.set_cons_succ, List.getElem_toArray, List.getElem_cons_zero, List.getElem_cons_succ]
  refine wpAnyH_take (i := 2) (v := ?_) rfl (by kernel_rfl) (by kernel_rfl) (by kernel_rfl) (fun _ _ _ h => h) (Or.inl ⟨by rfl, ?_⟩) (by assumption) ?_
  rotate_left
  · (intro wx hSw; (try dsimp only at hSw); go_simp <;> with_reducible rfl)
  try simp only [Act.put, List.setIfInBounds_toArray, List.set_cons_zero, List.set_cons_succ, List.getElem_toArray, List.getElem_cons_zero, List.getElem_cons_succ]
  refine wpAnyH_take (i := 3) (v := undef) rfl (by kernel_rfl) (by kernel_rfl) (by kernel_rfl) (fun _ _ _ h => h) (Or.inr ⟨by simp [Region.wanted, yielded], rfl⟩) (by assumption) ?_
  try simp only [Act.put, List.setIfInBounds_toArray, List.set_cons_zero, List.set_cons_succ, List.getElem_toArray, List.getElem_cons_zero, List.getElem_cons_succ]
  refine wpAnyH_take (i := 4) (v := undef) rfl (by kernel_rfl) (by kernel_rfl) (by kernel_rfl) (fun _ _ _ h => h) (Or.inr ⟨by simp [Region.wanted, yielded], rfl⟩) (by assumption) ?_
  try simp only [Act.put, List.setIfInBounds_toArray, List.set_cons_zero, List.set_cons_succ, List.getElem_toArray, List.getElem_cons_zero, List.getElem_cons_succ]
  refine wpAnyH_take (i := 5) (v := ?_) rfl (by kernel_rfl) (by kernel_rfl) (by kernel_rfl) (fun _ _ _ h => h) (Or.inl ⟨by rfl, ?_⟩) (by assumption) ?_
  rotate_left
  · (intro wx hSw; (try dsimp only at hSw); go_simp <;> with_reducible rfl)
  try simp only [Act.put, List.setIfInBounds_toArray, List.set_cons_zero, List.set_cons_succ, List.getElem_toArray, List.getElem_cons_zero, List.getElem_cons_succ]
  refine wpAnyH_take (i := 6) (v := ?_) rfl (by kernel_rfl) (by kernel_rfl) (by kernel_rfl) (fun _ _ _ h => h) (Or.inl ⟨by rfl, ?_⟩) (by assumption) ?_
  rotate_left
  · (intro wx hSw; (try dsimp only at hSw); go_simp <;> with_reducible rfl)
  try simp only [Act.put, List.setIfInBounds_toArray, List.set_cons_zero, List.set_cons_succ, List.getElem_toArray, List.getElem_cons_zero, List.getElem_cons_succ]
  refine wpAnyH_take (i := 7) (v := ?_) rfl (by kernel_rfl) (by kernel_rfl) (by kernel_rfl) (fun _ _ _ h => h) (Or.inl ⟨by rfl, ?_⟩) (by assumption) ?_
  rotate_left
  · (intro wx hSw; (try dsimp only at hSw); go_simp <;> with_reducible rfl)
  try simp only [Act.put, List.setIfInBounds_toArray, List.set_cons_zero, List.set_cons_succ, List.getElem_toArray, List.getElem_cons_zero, List.getElem_cons_succ]
  refine wpAnyH_take (i := 8) (v := ?_) rfl (by kernel_rfl) (by kernel_rfl) (by kernel_rfl) (fun _ _ _ h => h) (Or.inl ⟨by rfl, ?_⟩) (by assumption) ?_
  rotate_left
  · (intro wx hSw; (try dsimp only at hSw); go_simp <;> with_reducible rfl)
  try simp only [Act.put, List.setIfInBounds_toArray, List.set_cons_zero, List.set_cons_succ, List.getElem_toArray, List.getElem_cons_zero, List.getElem_cons_succ]
  refine wpAnyH_take (i := 9) (v := ?_) rfl (by kernel_rfl) (by kernel_rfl) (by kernel_rfl) (fun _ _ _ h => h) (Or.inl ⟨by rfl, ?_⟩) (by assumption) ?_
  rotate_left
  · (intro wx hSw; (try dsimp only at hSw); go_simp <;> with_reducible rfl)
  try simp only [Act.put, List.setIfInBounds_toArray, List.set_cons_zero, List.set_cons_succ, List.getElem_toArray, List.getElem_cons_zero, List.getElem_cons_succ]
  refine wpAnyH_take (i := 10) (v := ?_) rfl (by kernel_rfl) (by kernel_rfl) (by kernel_rfl) (fun _ _ _ h => h) (Or.inl ⟨by rfl, ?_⟩) (by assumption) ?_
  rotate_left
  · (intro wx hSw; (try dsimp only at hSw); go_simp <;> with_reducible rfl)
  try simp only [Act.put, List.setIfInBounds_toArray, List.set_cons_zero, List.set_cons_succ, List.getElem_toArray, List.getElem_cons_zero, List.getElem_cons_succ]
  refine wpAnyH_ready (rs := [11]) (by kernel_rfl) (by simp) ?_
  refine AllReadyH.cons rfl (fun K hK => ?_) AllReadyH.nil
  go_simp
  go_at_call 26; refine (who_is wh ow Hw.out _ hwh).mono ?_; rintro r w8 ⟨rfl, hb8⟩; have E8 := Lib.hid (E.out.drew.later hb8); have HP8 := Lib.hid ((hb8.block _ (lt_of_heap HP.out)).trans HP.out); have HA8 := Lib.hid ((hb8.block _ (lt_of_heap HA.out)).trans HA.out); have S1 : Hid (w8.cell? ⟨w1.heap.size, 0, none⟩ = some (.string ow) ∧ w8.cell? ⟨w.heap.size + 1, 1, none⟩ = some (.int .u8 wh)) := ⟨cell_of_heap HP8.out 0, cell_of_heap E8.out.op 1⟩; clear hb8
  have b08 := cell_of_heap E8.out.bx 0
  have o38 := cell_of_heap E8.out.op 3
  go_wp2_with fail
  refine hK.out _ _ S1.out (fun hHeld2 => ?_)
  clear hK K hHeld
  try simp only [Act.put, List.setIfInBounds_toArray, List.set_cons_zero, List.set_cons_succ, List.getElem_toArray, List.getElem_cons_zero, List.getElem_cons_succ]
  refine wpAnyH_take (i := 12) (v := ?_) rfl (by kernel_rfl) (by kernel_rfl) (by kernel_rfl) (fun _ _ _ h => h) (Or.inl ⟨by rfl, ?_⟩) (by assumption) ?_
  rotate_left
  · (intro wx hSw; (try dsimp only at hSw); go_simp <;> with_reducible rfl)
  try simp only [Act.put, List.setIfInBounds_toArray, List.set_cons_zero, List.set_cons_succ, List.getElem_toArray, List.getElem_cons_zero, List.getElem_cons_succ]
  refine wpAnyH_take (i := 13) (v := ?_) rfl (by kernel_rfl) (by kernel_rfl) (by kernel_rfl) (fun _ _ _ h => h) (Or.inl ⟨by rfl, ?_⟩) (by assumption) ?_
  rotate_left
  · (intro wx hSw; (try dsimp only at hSw); go_simp <;> with_reducible rfl)
  try simp only [Act.put, List.setIfInBounds_toArray, List.set_cons_zero, List.set_cons_succ, List.getElem_toArray, List.getElem_cons_zero, List.getElem_cons_succ]
  refine wpAnyH_take (i := 14) (v := ?_) rfl (by kernel_rfl) (by kernel_rfl) (by kernel_rfl) (fun _ _ _ h => h) (Or.inl ⟨by rfl, ?_⟩) (by assumption) ?_
  rotate_left
  · (intro wx hSw; (try dsimp only at hSw); go_simp <;> with_reducible rfl)
  try simp only [Act.put, List.setIfInBounds_toArray, List.set_cons_zero, List.set_cons_succ, List.getElem_toArray, List.getElem_cons_zero, List.getElem_cons_succ]
  refine wpAnyH_done (by kernel_rfl) ?_ _
  clear hp0 ho1
  go_wp2_with fail
  refine (without_any37 a n c es nu w8 (Hl.out.later E8.out.below) (by omega)).mono ?_
  rintro r w9 ⟨v9, rfl, hrow9, hb9⟩
  have E9 := Lib.hid (E8.out.later hb9)
  have Hrow9 := Lib.hid hrow9
  obtain ⟨a9, c9, rfl, -⟩ := hrow9.rd (sansE_ps Hl.out E9.out.below nu)
  have hbase : w.heap.size + 1 + 1 + 1 < w8.heap.size := lt_of_heap E8.out.mo
  clear hrow9 hb9 b0 b08 o1 o2 o3 o4 o38
  have r0 := cell_of_heap E9.out.res 0
  have g0 := frozen_of_heap E9.out.res 0
  have r1 := cell_of_heap E9.out.res 1
  have g1 := frozen_of_heap E9.out.res 1
  have r2 := cell_of_heap E9.out.res 2
  have g2 := frozen_of_heap E9.out.res 2
  have r3 := cell_of_heap E9.out.res 3
  have g3 := frozen_of_heap E9.out.res 3
  have m0 := cell_of_heap E9.out.mo 0
  have h0 := frozen_of_heap E9.out.mo 0
  go_wp2
  refine bodyPost_ret (v := .tuple #[.agg #[.string ⟨#[]⟩, .string ⟨#[]⟩, .string ⟨#[]⟩, .int .i64 0], .agg #[.slice a9 (sansE es nu).length c9]]) (by simp [results, Tryz.results21, go_sem, r0, r1, r2, r3, m0]) rfl ?_
  obtain ⟨hb, hr⟩ := E9.out.fin Hl.out Hrow9.out hbase (fun e he => .inl (List.mem_filter.1 he).1) (.string ⟨#[]⟩) (.string ⟨#[]⟩) (.string ⟨#[]⟩) (.int .i64 0) (.slice a9 (sansE es nu).length c9)
  exact ⟨a9, _, c9, sansE es nu, rfl, hb, hr, step_key0⟩

set_option maxRecDepth 100000 in
set_option maxHeartbeats 3200000 in
theorem ex_opena (a : Option Addr) (n c : Nat) (es : List EntT) (kd wh us : Nat) (nu ep : Int) (sr by_ : ByteArray) (w : World) (hl : EntR w a n es) (hn : n ≤ 1000) (hsr : sr.size ≤ 9223372036854775807) (hby : by_.size ≤ 9223372036854775807) (hfe : findE es nu ep = none) (hr1 : 1 ≤ nu) (hr2 : nu ≤ 9999) (he : numB ep = true) (hk : kd % 5 = 0) (hlow : 99 < nu) (hwh : wh ≤ 255) :
    Calls Tryz.prog 21 #[.agg #[.slice a n c], .agg #[.int .u8 kd, .int .u8 wh, .int .u8 us, .int .i64 nu, .int .i64 ep, .string sr, .string by_]] w (EPost w a es nu (some ⟨whoN wh, ep, 0, []⟩, ⟨zeroPk, ⟨#[]⟩, 0⟩, 2)) := by
  have hk' : (kd : Int) % 5 = 0 := by omega
  have He := Lib.hid he; clear hk he
  have hgv : getV (findE es nu ep) = .tuple #[.agg #[.string ⟨#[]⟩, .int .i64 0, .int .i64 0, .slice none 0 0], .bool false] := by rw [hfe]; rfl
  clear hfe
  have Hgv := Lib.hid hgv; clear hgv
  have Hl := Lib.hid hl; clear hl
  have D0 := Lib.hid (EX.start w a n c #[.int .u8 kd, .int .u8 wh, .int .u8 us, .int .i64 nu, .int .i64 ep, .string sr, .string by_])
  go_enter Tryz.func21, Tryz.ntmps21
  go_wp2_with fail
  generalize (((w.alloc (.cells #[.slice a n c] 30)).alloc (.cells #[.int .u8 kd, .int .u8 wh, .int .u8 us, .int .i64 nu, .int .i64 ep, .string sr, .string by_] 35)).alloc (.cells #[.string ⟨#[]⟩, .string ⟨#[]⟩, .string ⟨#[]⟩, .int .i64 0] 42)).alloc (.cells #[.slice none 0 0] 30) = W at *
  refine (get_any37 a n c es nu ep W (Hl.out.later D0.out.below) (by omega)).mono ?_
  rintro r w1 ⟨rfl, hb1⟩
  rw [Hgv.out]
  have D1 := Lib.hid (D0.out.later hb1)
  clear hb1 D0 Hgv
  have D1a : Hid (∀ o, EX w (w1.alloc o) a n c #[.int .u8 kd, .int .u8 wh, .int .u8 us, .int .i64 nu, .int .i64 ep, .string sr, .string by_]) := fun o => D1.out.later ((Below.refl _ _).alloc (Nat.le_refl _) _)
  have HP1 : Hid (∀ o, (w1.alloc o).heap[w1.heap.size]? = some o) := fun o => heap_alloc_new w1 o
  have hPb : w.heap.size + 1 + 1 + 1 < w1.heap.size := lt_of_heap D1.out.mo
  have o5 : w1.cell? ⟨w.heap.size + 1, 5, none⟩ = some (.string sr) := cell_of_heap D1.out.op 5
  have o6 : w1.cell? ⟨w.heap.size + 1, 6, none⟩ = some (.string by_) := cell_of_heap D1.out.op 6
  have hne5 := World.new_ne w1 ⟨w.heap.size + 1, 5, none⟩ o5
  have hlt5 := lt_of_heap D1.out.op
  go_wp2_with fail
  refine (small_any sr by_ _ hsr hby).mono ?_
  rintro r w3 ⟨rfl, hb3⟩
  have D3 := Lib.hid ((D1a.out _).later hb3)
  have HP3 := Lib.hid ((hb3.block _ (lt_of_heap (HP1.out _))).trans (HP1.out (.cells #[.string ⟨#[]⟩, .int .i64 0, .int .i64 0, .slice none 0 0] 80)))
  clear hb3 D1a HP1 o5 o6 hne5 hlt5 D1
  have D4 : Hid (∀ o, EX w (w3.alloc o) a n c #[.int .u8 kd, .int .u8 wh, .int .u8 us, .int .i64 nu, .int .i64 ep, .string sr, .string by_]) := fun o => D3.out.later ((Below.refl _ _).alloc (Nat.le_refl _) _)
  have HP4 : Hid (∀ o, (w3.alloc o).heap[w1.heap.size]? = some (.cells #[.string ⟨#[]⟩, .int .i64 0, .int .i64 0, .slice none 0 0] 80 (0, 0))) := fun o => (Below.heap_alloc w3 o _ (lt_of_heap HP3.out)).trans HP3.out
  have HA4 : Hid (∀ o, (w3.alloc o).heap[w3.heap.size]? = some o) := fun o => heap_alloc_new w3 o
  have hAb : w1.heap.size < w3.heap.size := lt_of_heap HP3.out
  clear D3 HP3
  go_upto_region 4 with fail
  have E := Lib.hid (D4.out (.cells #[.string (cut sr 60), .string (cut by_ 600)] 33))
  have HP := Lib.hid (HP4.out (.cells #[.string (cut sr 60), .string (cut by_ 600)] 33))
  have HA := Lib.hid (HA4.out (.cells #[.string (cut sr 60), .string (cut by_ 600)] 33))
  clear D4 HP4 HA4
  generalize w3.alloc (.cells #[.string (cut sr 60), .string (cut by_ 600)] 33) = V at *
  have o1 := cell_of_heap E.out.op 1
  have o2 := cell_of_heap E.out.op 2
  have o3 := cell_of_heap E.out.op 3
  have o4 := cell_of_heap E.out.op 4
  have q0 : V.cell? ⟨w.heap.size, 0, none⟩ = some (.slice a n c) := cell_of_heap E.out.bx 0
  have q1 : V.cell? ⟨w.heap.size + 1, 1, none⟩ = some (.int .u8 wh) := cell_of_heap E.out.op 1
  have q3 : V.cell? ⟨w.heap.size + 1, 3, none⟩ = some (.int .i64 nu) := cell_of_heap E.out.op 3
  have q4 : V.cell? ⟨w.heap.size + 1, 4, none⟩ = some (.int .i64 ep) := cell_of_heap E.out.op 4
  have hVb : w.heap.size + 1 + 1 + 1 < V.heap.size := lt_of_heap E.out.mo
  have Hlen : Hid ((sansE es nu).length ≤ 1000000) := sansE_len Hl.out.1 hn nu
  go_wp2_with fail
  refine (lNumber_is ep _ He.out _).mono ?_
  rintro r w6 ⟨rfl, rfl⟩
  go_upto_region 11 with fail
  clear o1 o2 o3 o4
  go_region_held3 (fun W => W.cell? ⟨w.heap.size, 0, none⟩ = some (.slice a n c) ∧ W.cell? ⟨w.heap.size + 1, 1, none⟩ = some (.int .u8 wh) ∧ W.cell? ⟨w.heap.size + 1, 3, none⟩ = some (.int .i64 nu) ∧ W.cell? ⟨w.heap.size + 1, 4, none⟩ = some (.int .i64 ep)) (first | with_reducible exact S1.out | with_reducible exact S2.out | with_reducible exact S3.out | with_reducible exact ⟨q0, q1, q3, q4⟩ | with_reducible exact ⟨cell_al S2.out.1 _, cell_al S2.out.2.1 _, cell_al S2.out.2.2.1 _, cell_al S2.out.2.2.2 _⟩ | with_reducible exact ⟨cell_set4 S3.out.1 (by omega) _ _ _ _, cell_set4 S3.out.2.1 (by omega) _ _ _ _, cell_set4 S3.out.2.2.1 (by omega) _ _ _ _, cell_set4 S3.out.2.2.2 (by omega) _ _ _ _⟩ | with_reducible exact ⟨cell_set1 (cell_set4 S3.out.1 (by omega) _ _ _ _) (by omega) _, cell_set1 (cell_set4 S3.out.2.1 (by omega) _ _ _ _) (by omega) _, cell_set1 (cell_set4 S3.out.2.2.1 (by omega) _ _ _ _) (by omega) _, cell_set1 (cell_set4 S3.out.2.2.2 (by omega) _ _ _ _) (by omega) _⟩ | go_keep)
    (first
      | (go_at_call 43; refine (without_any37 a n c es nu _ (Hl.out.later E.out.drew.below) (by omega)).mono ?_; rintro r w5 ⟨v5, rfl, hrow5, hb5⟩; have E5 := Lib.hid (E.out.drew.later hb5); have Ho5 := Lib.hid hrow5; have S1 : Hid (w5.cell? ⟨w.heap.size, 0, none⟩ = some (.slice a n c) ∧ w5.cell? ⟨w.heap.size + 1, 1, none⟩ = some (.int .u8 wh) ∧ w5.cell? ⟨w.heap.size + 1, 3, none⟩ = some (.int .i64 nu) ∧ w5.cell? ⟨w.heap.size + 1, 4, none⟩ = some (.int .i64 ep)) := ⟨cell_of_heap E5.out.bx 0, cell_of_heap E5.out.op 1, cell_of_heap E5.out.op 3, cell_of_heap E5.out.op 4⟩; have B5 : Hid (V.heap.size ≤ w5.heap.size) := hb5.size; clear hrow5 hb5)
      | (go_at_call 26; refine (who_any wh _ hwh).mono ?_; rintro r w6 ⟨rfl, hb6⟩; have E6 := Lib.hid (E5.out.later hb6); have Ho6 := Lib.hid (Ho5.out.later hb6); have S2 : Hid (w6.cell? ⟨w.heap.size, 0, none⟩ = some (.slice a n c) ∧ w6.cell? ⟨w.heap.size + 1, 1, none⟩ = some (.int .u8 wh) ∧ w6.cell? ⟨w.heap.size + 1, 3, none⟩ = some (.int .i64 nu) ∧ w6.cell? ⟨w.heap.size + 1, 4, none⟩ = some (.int .i64 ep)) := ⟨cell_of_heap E6.out.bx 0, cell_of_heap E6.out.op 1, cell_of_heap E6.out.op 3, cell_of_heap E6.out.op 4⟩; have B6 : Hid (V.heap.size ≤ w6.heap.size) := Nat.le_trans B5.out hb6.size; clear hb6)
      | (refine step_append_ent (by rfl) _ _ (by rfl) V.drew.heap.size v5 (sansE es nu) (by rfl) (World.ownsRow.alloc Ho6.out _) ⟨nu, ⟨whoN wh, ep, 0, []⟩, none, 0, 0⟩ w6.heap.size (by rfl) (heap_alloc_new w6 _) Hlen.out (by have := B6.out; simp; omega) ?_; intro g n8 cap w7 hrow7 hn7 hg7 hat7; have Ho7 := Lib.hid hrow7; have Hn7 : Hid (n8 = (sansE es nu ++ [(⟨nu, ⟨whoN wh, ep, 0, []⟩, none, 0, 0⟩ : EntT)]).length) := (by show _ = _; rw [List.length_append]; exact hn7); have E7 := Lib.hid ((E6.out.later ((Below.refl _ _).alloc (Nat.le_refl _) _)).grown hg7 (fun k hk => by have := (World.ownsRow.lt Ho5.out k hk).1; have := hVb; simp at *; omega)); have S3 : Hid (w7.cell? ⟨w.heap.size, 0, none⟩ = some (.slice a n c) ∧ w7.cell? ⟨w.heap.size + 1, 1, none⟩ = some (.int .u8 wh) ∧ w7.cell? ⟨w.heap.size + 1, 3, none⟩ = some (.int .i64 nu) ∧ w7.cell? ⟨w.heap.size + 1, 4, none⟩ = some (.int .i64 ep)) := ⟨cell_of_heap E7.out.bx 0, cell_of_heap E7.out.op 1, cell_of_heap E7.out.op 3, cell_of_heap E7.out.op 4⟩; clear hrow7 hn7 hg7 hat7; have r0 := cell_of_heap E7.out.res 0; have g0 := frozen_of_heap E7.out.res 0; have r1 := cell_of_heap E7.out.res 1; have g1 := frozen_of_heap E7.out.res 1; have r2 := cell_of_heap E7.out.res 2; have g2 := frozen_of_heap E7.out.res 2; have r3 := cell_of_heap E7.out.res 3; have g3 := frozen_of_heap E7.out.res 3; have m0 := cell_of_heap E7.out.mo 0; have h0 := frozen_of_heap E7.out.mo 0)
      | fail)
  go_wp2
  refine bodyPost_ret (v := .tuple #[.agg #[.string ⟨#[]⟩, .string ⟨#[]⟩, .string ⟨#[]⟩, .int .i64 0], .agg #[.slice (some ⟨g, 0, none⟩) n8 cap]]) (by simp [results, Tryz.results21, go_sem, r0, r1, r2, r3, m0]) rfl ?_
  have hn8 := Hn7.out
  subst hn8
  obtain ⟨hb, hr⟩ := E7.out.fin Hl.out Ho7.out (by simpa using hVb) (fun e he => by
    rcases List.mem_append.1 he with h | h
    · exact .inl (List.mem_filter.1 h).1
    · obtain rfl := List.mem_singleton.1 h
      exact .inr ⟨PSl.nil _, (fun g off e => nomatch e), fun _ => rfl, Nat.le_refl _⟩) (.string ⟨#[]⟩) (.string ⟨#[]⟩) (.string ⟨#[]⟩) (.int .i64 0) _
  exact ⟨_, _, cap, _, rfl, hb, hr, step_key (e := ⟨nu, ⟨whoN wh, ep, 0, []⟩, none, 0, 0⟩) rfl⟩
set_option maxRecDepth 100000 in
set_option maxHeartbeats 3200000 in
theorem ex_openb (a : Option Addr) (n c : Nat) (es : List EntT) (kd wh us : Nat) (nu ep : Int) (sr by_ : ByteArray) (w : World) (hl : EntR w a n es) (hn : n ≤ 1000) (hsr : sr.size ≤ 9223372036854775807) (hby : by_.size ≤ 9223372036854775807) (hfe : findE es nu ep = none) (hr1 : 1 ≤ nu) (hr2 : nu ≤ 9999) (he : numB ep = true) (hk : kd % 5 = 0) (hus : ((us : Int) % 3) = 0) (hwh : wh ≤ 255) :
    Calls Tryz.prog 21 #[.agg #[.slice a n c], .agg #[.int .u8 kd, .int .u8 wh, .int .u8 us, .int .i64 nu, .int .i64 ep, .string sr, .string by_]] w (EPost w a es nu (some ⟨whoN wh, ep, 0, []⟩, ⟨zeroPk, ⟨#[]⟩, 0⟩, 2)) := by
  have hk' : (kd : Int) % 5 = 0 := by omega
  have He := Lib.hid he; clear hk he
  have hgv : getV (findE es nu ep) = .tuple #[.agg #[.string ⟨#[]⟩, .int .i64 0, .int .i64 0, .slice none 0 0], .bool false] := by rw [hfe]; rfl
  clear hfe
  have Hgv := Lib.hid hgv; clear hgv
  have Hl := Lib.hid hl; clear hl
  have D0 := Lib.hid (EX.start w a n c #[.int .u8 kd, .int .u8 wh, .int .u8 us, .int .i64 nu, .int .i64 ep, .string sr, .string by_])
  go_enter Tryz.func21, Tryz.ntmps21
  go_wp2_with fail
  generalize (((w.alloc (.cells #[.slice a n c] 30)).alloc (.cells #[.int .u8 kd, .int .u8 wh, .int .u8 us, .int .i64 nu, .int .i64 ep, .string sr, .string by_] 35)).alloc (.cells #[.string ⟨#[]⟩, .string ⟨#[]⟩, .string ⟨#[]⟩, .int .i64 0] 42)).alloc (.cells #[.slice none 0 0] 30) = W at *
  refine (get_any37 a n c es nu ep W (Hl.out.later D0.out.below) (by omega)).mono ?_
  rintro r w1 ⟨rfl, hb1⟩
  rw [Hgv.out]
  have D1 := Lib.hid (D0.out.later hb1)
  clear hb1 D0 Hgv
  have D1a : Hid (∀ o, EX w (w1.alloc o) a n c #[.int .u8 kd, .int .u8 wh, .int .u8 us, .int .i64 nu, .int .i64 ep, .string sr, .string by_]) := fun o => D1.out.later ((Below.refl _ _).alloc (Nat.le_refl _) _)
  have HP1 : Hid (∀ o, (w1.alloc o).heap[w1.heap.size]? = some o) := fun o => heap_alloc_new w1 o
  have hPb : w.heap.size + 1 + 1 + 1 < w1.heap.size := lt_of_heap D1.out.mo
  have o5 : w1.cell? ⟨w.heap.size + 1, 5, none⟩ = some (.string sr) := cell_of_heap D1.out.op 5
  have o6 : w1.cell? ⟨w.heap.size + 1, 6, none⟩ = some (.string by_) := cell_of_heap D1.out.op 6
  have hne5 := World.new_ne w1 ⟨w.heap.size + 1, 5, none⟩ o5
  have hlt5 := lt_of_heap D1.out.op
  go_wp2_with fail
  refine (small_any sr by_ _ hsr hby).mono ?_
  rintro r w3 ⟨rfl, hb3⟩
  have D3 := Lib.hid ((D1a.out _).later hb3)
  have HP3 := Lib.hid ((hb3.block _ (lt_of_heap (HP1.out _))).trans (HP1.out (.cells #[.string ⟨#[]⟩, .int .i64 0, .int .i64 0, .slice none 0 0] 80)))
  clear hb3 D1a HP1 o5 o6 hne5 hlt5 D1
  have D4 : Hid (∀ o, EX w (w3.alloc o) a n c #[.int .u8 kd, .int .u8 wh, .int .u8 us, .int .i64 nu, .int .i64 ep, .string sr, .string by_]) := fun o => D3.out.later ((Below.refl _ _).alloc (Nat.le_refl _) _)
  have HP4 : Hid (∀ o, (w3.alloc o).heap[w1.heap.size]? = some (.cells #[.string ⟨#[]⟩, .int .i64 0, .int .i64 0, .slice none 0 0] 80 (0, 0))) := fun o => (Below.heap_alloc w3 o _ (lt_of_heap HP3.out)).trans HP3.out
  have HA4 : Hid (∀ o, (w3.alloc o).heap[w3.heap.size]? = some o) := fun o => heap_alloc_new w3 o
  have hAb : w1.heap.size < w3.heap.size := lt_of_heap HP3.out
  clear D3 HP3
  go_upto_region 4 with fail
  have E := Lib.hid (D4.out (.cells #[.string (cut sr 60), .string (cut by_ 600)] 33))
  have HP := Lib.hid (HP4.out (.cells #[.string (cut sr 60), .string (cut by_ 600)] 33))
  have HA := Lib.hid (HA4.out (.cells #[.string (cut sr 60), .string (cut by_ 600)] 33))
  clear D4 HP4 HA4
  generalize w3.alloc (.cells #[.string (cut sr 60), .string (cut by_ 600)] 33) = V at *
  have o1 := cell_of_heap E.out.op 1
  have o2 := cell_of_heap E.out.op 2
  have o3 := cell_of_heap E.out.op 3
  have o4 := cell_of_heap E.out.op 4
  have q0 : V.cell? ⟨w.heap.size, 0, none⟩ = some (.slice a n c) := cell_of_heap E.out.bx 0
  have q1 : V.cell? ⟨w.heap.size + 1, 1, none⟩ = some (.int .u8 wh) := cell_of_heap E.out.op 1
  have q3 : V.cell? ⟨w.heap.size + 1, 3, none⟩ = some (.int .i64 nu) := cell_of_heap E.out.op 3
  have q4 : V.cell? ⟨w.heap.size + 1, 4, none⟩ = some (.int .i64 ep) := cell_of_heap E.out.op 4
  have hVb : w.heap.size + 1 + 1 + 1 < V.heap.size := lt_of_heap E.out.mo
  have Hlen : Hid ((sansE es nu).length ≤ 1000000) := sansE_len Hl.out.1 hn nu
  by_cases hlow : nu ≤ 99
  all_goals
    go_wp2_with fail
    refine (lNumber_is ep _ He.out _).mono ?_
    rintro r w6 ⟨rfl, rfl⟩
    go_upto_region 11 with fail
    clear o1 o2 o3 o4
    go_region_held3 (fun W => W.cell? ⟨w.heap.size, 0, none⟩ = some (.slice a n c) ∧ W.cell? ⟨w.heap.size + 1, 1, none⟩ = some (.int .u8 wh) ∧ W.cell? ⟨w.heap.size + 1, 3, none⟩ = some (.int .i64 nu) ∧ W.cell? ⟨w.heap.size + 1, 4, none⟩ = some (.int .i64 ep)) (first | with_reducible exact S1.out | with_reducible exact S2.out | with_reducible exact S3.out | with_reducible exact ⟨q0, q1, q3, q4⟩ | with_reducible exact ⟨cell_al S2.out.1 _, cell_al S2.out.2.1 _, cell_al S2.out.2.2.1 _, cell_al S2.out.2.2.2 _⟩ | with_reducible exact ⟨cell_set4 S3.out.1 (by omega) _ _ _ _, cell_set4 S3.out.2.1 (by omega) _ _ _ _, cell_set4 S3.out.2.2.1 (by omega) _ _ _ _, cell_set4 S3.out.2.2.2 (by omega) _ _ _ _⟩ | with_reducible exact ⟨cell_set1 (cell_set4 S3.out.1 (by omega) _ _ _ _) (by omega) _, cell_set1 (cell_set4 S3.out.2.1 (by omega) _ _ _ _) (by omega) _, cell_set1 (cell_set4 S3.out.2.2.1 (by omega) _ _ _ _) (by omega) _, cell_set1 (cell_set4 S3.out.2.2.2 (by omega) _ _ _ _) (by omega) _⟩ | go_keep)
      (first
        | (go_at_call 43; refine (without_any37 a n c es nu _ (Hl.out.later E.out.drew.below) (by omega)).mono ?_; rintro r w5 ⟨v5, rfl, hrow5, hb5⟩; have E5 := Lib.hid (E.out.drew.later hb5); have Ho5 := Lib.hid hrow5; have S1 : Hid (w5.cell? ⟨w.heap.size, 0, none⟩ = some (.slice a n c) ∧ w5.cell? ⟨w.heap.size + 1, 1, none⟩ = some (.int .u8 wh) ∧ w5.cell? ⟨w.heap.size + 1, 3, none⟩ = some (.int .i64 nu) ∧ w5.cell? ⟨w.heap.size + 1, 4, none⟩ = some (.int .i64 ep)) := ⟨cell_of_heap E5.out.bx 0, cell_of_heap E5.out.op 1, cell_of_heap E5.out.op 3, cell_of_heap E5.out.op 4⟩; have B5 : Hid (V.heap.size ≤ w5.heap.size) := hb5.size; clear hrow5 hb5)
        | (go_at_call 26; refine (who_any wh _ hwh).mono ?_; rintro r w6 ⟨rfl, hb6⟩; have E6 := Lib.hid (E5.out.later hb6); have Ho6 := Lib.hid (Ho5.out.later hb6); have S2 : Hid (w6.cell? ⟨w.heap.size, 0, none⟩ = some (.slice a n c) ∧ w6.cell? ⟨w.heap.size + 1, 1, none⟩ = some (.int .u8 wh) ∧ w6.cell? ⟨w.heap.size + 1, 3, none⟩ = some (.int .i64 nu) ∧ w6.cell? ⟨w.heap.size + 1, 4, none⟩ = some (.int .i64 ep)) := ⟨cell_of_heap E6.out.bx 0, cell_of_heap E6.out.op 1, cell_of_heap E6.out.op 3, cell_of_heap E6.out.op 4⟩; have B6 : Hid (V.heap.size ≤ w6.heap.size) := Nat.le_trans B5.out hb6.size; clear hb6)
        | (refine step_append_ent (by rfl) _ _ (by rfl) V.drew.heap.size v5 (sansE es nu) (by rfl) (World.ownsRow.alloc Ho6.out _) ⟨nu, ⟨whoN wh, ep, 0, []⟩, none, 0, 0⟩ w6.heap.size (by rfl) (heap_alloc_new w6 _) Hlen.out (by have := B6.out; simp; omega) ?_; intro g n8 cap w7 hrow7 hn7 hg7 hat7; have Ho7 := Lib.hid hrow7; have Hn7 : Hid (n8 = (sansE es nu ++ [(⟨nu, ⟨whoN wh, ep, 0, []⟩, none, 0, 0⟩ : EntT)]).length) := (by show _ = _; rw [List.length_append]; exact hn7); have E7 := Lib.hid ((E6.out.later ((Below.refl _ _).alloc (Nat.le_refl _) _)).grown hg7 (fun k hk => by have := (World.ownsRow.lt Ho5.out k hk).1; have := hVb; simp at *; omega)); have S3 : Hid (w7.cell? ⟨w.heap.size, 0, none⟩ = some (.slice a n c) ∧ w7.cell? ⟨w.heap.size + 1, 1, none⟩ = some (.int .u8 wh) ∧ w7.cell? ⟨w.heap.size + 1, 3, none⟩ = some (.int .i64 nu) ∧ w7.cell? ⟨w.heap.size + 1, 4, none⟩ = some (.int .i64 ep)) := ⟨cell_of_heap E7.out.bx 0, cell_of_heap E7.out.op 1, cell_of_heap E7.out.op 3, cell_of_heap E7.out.op 4⟩; clear hrow7 hn7 hg7 hat7; have r0 := cell_of_heap E7.out.res 0; have g0 := frozen_of_heap E7.out.res 0; have r1 := cell_of_heap E7.out.res 1; have g1 := frozen_of_heap E7.out.res 1; have r2 := cell_of_heap E7.out.res 2; have g2 := frozen_of_heap E7.out.res 2; have r3 := cell_of_heap E7.out.res 3; have g3 := frozen_of_heap E7.out.res 3; have m0 := cell_of_heap E7.out.mo 0; have h0 := frozen_of_heap E7.out.mo 0)
        | fail)
    go_wp2
    refine bodyPost_ret (v := .tuple #[.agg #[.string ⟨#[]⟩, .string ⟨#[]⟩, .string ⟨#[]⟩, .int .i64 0], .agg #[.slice (some ⟨g, 0, none⟩) n8 cap]]) (by simp [results, Tryz.results21, go_sem, r0, r1, r2, r3, m0]) rfl ?_
    have hn8 := Hn7.out
    subst hn8
    obtain ⟨hb, hr⟩ := E7.out.fin Hl.out Ho7.out (by simpa using hVb) (fun e he => by
      rcases List.mem_append.1 he with h | h
      · exact .inl (List.mem_filter.1 h).1
      · obtain rfl := List.mem_singleton.1 h
        exact .inr ⟨PSl.nil _, (fun g off e => nomatch e), fun _ => rfl, Nat.le_refl _⟩) (.string ⟨#[]⟩) (.string ⟨#[]⟩) (.string ⟨#[]⟩) (.int .i64 0) _
    exact ⟨_, _, cap, _, rfl, hb, hr, step_key (e := ⟨nu, ⟨whoN wh, ep, 0, []⟩, none, 0, 0⟩) rfl⟩
end Go.Proofs.YtijfdgoeppehlaaGreatDoor
