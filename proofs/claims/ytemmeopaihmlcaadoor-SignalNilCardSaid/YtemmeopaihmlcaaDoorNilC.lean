/- SignalNil: the walk. -/
import Derived.Test.YtemmeopaihmlcaaDoorNilB
import Derived.Test.YtemmeopaihmlcaaDoorTrue
namespace Go.Proofs.YtemmeopaihmlcaaDoor
open Go.RowKit
attribute [local go_sem ↓] Go.wp_at_zero Go.wp_at_succ

set_option maxRecDepth 100000 in
theorem run_eql_res (w : World) : (binOp .eql 46 (.agg #[.int .i64 0, .int .i64 0, .int .i64 0, .bool false, .int .i64 0]) (.agg #[.int .i64 0, .int .i64 0, .int .i64 0, .bool false, .int .i64 0])).run Tryd.prog w = .ok (.bool true) w := by kernel_rfl
attribute [local go_sem ↓] run_eql_res

set_option maxRecDepth 100000 in
set_option maxHeartbeats 3200000 in
theorem snilLaw_in (kd wh to : Nat) (sg nn : Int) (iss : Bool) (who wn : ByteArray) (w : World) (hkd : kd ≤ 255) (hwh : wh ≤ 255) (hto : to ≤ 255) (hwn : wn.size ≤ 60)
    (hcut : ((60 : Int) < (who.size : Int) ∧ who.extract 0 60 = wn) ∨ (¬ (60 : Int) < (who.size : Int) ∧ who = wn)) (hu : Usages w) :
    Calls Tryd.prog 4 #[.agg #[.int .u8 kd, .int .u8 wh, .int .u8 to, .int .i64 sg, .int .i64 nn, .bool iss], .string who] w (TruePost w) := by
  have Hu := Lib.hid hu; clear hu
  have Ha : Hid (∀ o, Below w.heap.size w (w.alloc o)) := fun o => (Below.refl _ _).alloc (Nat.le_refl _) _
  have HX0 : Hid (∀ o, (w.alloc o).heap[w.heap.size]? = some o) := fun o => heap_alloc_new w o
  go_enter Tryd.func4, Tryd.ntmps4
  go_wp2_with fail
  refine (known33 _ (Hu.out.below (Ha.out _) Hu.out.pos)).mono ?_
  rintro e w1 ⟨rfl, hb⟩
  have HX1 := Lib.hid ((hb.block _ (lt_of_heap (HX0.out _))).trans (HX0.out _))
  have HB1 : Hid (Below w.heap.size w w1) := (Ha.out _).trans (hb.mono (Ha.out _).size)
  clear hb HX0 Ha
  have x0 : w1.cell? ⟨w.heap.size, 0, none⟩ = some (.int .u8 kd) := cell_of_heap HX1.out 0
  have x1 : w1.cell? ⟨w.heap.size, 1, none⟩ = some (.int .u8 wh) := cell_of_heap HX1.out 1
  have x2 : w1.cell? ⟨w.heap.size, 2, none⟩ = some (.int .u8 to) := cell_of_heap HX1.out 2
  have x3 : w1.cell? ⟨w.heap.size, 3, none⟩ = some (.int .i64 sg) := cell_of_heap HX1.out 3
  have x4 : w1.cell? ⟨w.heap.size, 4, none⟩ = some (.int .i64 nn) := cell_of_heap HX1.out 4
  have x5 : w1.cell? ⟨w.heap.size, 5, none⟩ = some (.bool iss) := cell_of_heap HX1.out 5
  have Hcut := Lib.hid hcut; clear hcut
  have hways : (60 : Int) < (who.size : Int) ∨ ¬ (60 : Int) < (who.size : Int) := Classical.em _
  rcases hways with hc | hc
  case' inl => obtain ewn := (Hcut.out.resolve_right (fun h => by omega)).2
  case' inr => obtain rfl := (Hcut.out.resolve_left (fun h => by omega)).2.symm
  case' inl => (go_wp2_with fail; (try rw [ewn]); clear ewn)
  case' inr => go_wp2_with fail
  all_goals
    clear Hcut hc
    refine (snil_any kd wh to sg nn iss _ hwh hto hkd).mono ?_
    rintro e w2 ⟨rfl, hb⟩
    have HX2 := Lib.hid ((hb.block _ (lt_of_heap HX1.out)).trans HX1.out)
    have HB2 : Hid (Below w.heap.size w w2) := HB1.out.trans (hb.mono HB1.out.size)
    clear hb HX1 HB1 x0 x1 x2 x3 x4 x5
    obtain ⟨ev, hev⟩ : ∃ ev, nilE (kd % 10) = ev := ⟨_, rfl⟩
    have hec : Hid ((ev = 1) ∨ (ev = 0 ∧ (kd : Int) % 10 = 9)) := by
      show _ ∨ _
      rw [← hev]
      unfold nilE
      by_cases h9 : kd % 10 = 9
      · exact .inr ⟨if_pos h9, by omega⟩
      · exact .inl (if_neg h9)
    rw [hev]
    clear hev
    go_upto_region 6 with fail
    have HX4 := Lib.hid ((Below.heap_alloc w2 (.cells #[.int .i64 0, .int .i64 0, .int .i64 0, .bool false, .int .i64 ev] 46) _ (lt_of_heap HX2.out)).trans HX2.out)
    have HY4 := Lib.hid (heap_alloc_new w2 (.cells #[.int .i64 0, .int .i64 0, .int .i64 0, .bool false, .int .i64 ev] 46))
    have HB4 : Hid (Below w.heap.size w (w2.alloc (.cells #[.int .i64 0, .int .i64 0, .int .i64 0, .bool false, .int .i64 ev] 46))) := HB2.out.alloc HB2.out.size _
    clear HX2 HB2
    generalize w2.alloc (.cells #[.int .i64 0, .int .i64 0, .int .i64 0, .bool false, .int .i64 ev] 46) = W4 at *
    generalize w2.heap.size = Y at *
    have Hu4 := Lib.hid (Hu.out.below HB4.out Hu.out.pos)
    go_wp2_with fail
    refine (srNew W4 Hu4.out wn).mono ?_
    rintro e w5 ⟨rfl, hnew⟩
    have Hnew := Lib.hid hnew; clear hnew
    go_wp2_with fail
    refine Hnew.out.mono ?_
    rintro e w6 ⟨rfl, s⟩
    have S6 := Lib.hid s
    clear s Hnew
    go_wp2_with fail
    generalize W4.heap.size + 3 = vb at *
    obtain ⟨vv, hv⟩ : ∃ v, validB wn = v := ⟨_, rfl⟩
    have Hv := Lib.hid hv; clear hv
    obtain ⟨q, hq⟩ : ∃ q : Int, (if vv then (0 : Int) else 12) = q := ⟨_, rfl⟩
    have hmk : Hid (Calls Tryd.prog 16 #[.pointer (some ⟨vb, 0, none⟩), .string wn] w6 fun r w7 => r = .returned (.int .i64 q) ∧ Below W4.heap.size W4 w7 ∧ Calls Tryd.prog 17 #[.pointer (some ⟨vb, 0, none⟩), .string wn] w7 fun r w8 => r = .returned (.int .i64 q) ∧ Below W4.heap.size W4 w8) := by
      show Calls _ _ _ _ _
      cases vv with
      | true =>
        have e0 : q = 0 := hq.symm.trans (if_pos rfl)
        rw [e0]
        refine (srMake _ _ _ _ _ _ S6.out ⟨Hv.out, by omega⟩ (by decide)).mono ?_
        rintro e w7 ⟨rfl, s7, -⟩
        refine ⟨rfl, s7.below, (srDrop _ _ _ _ _ _ _ s7 ⟨Hv.out, by omega⟩ (by decide)).mono ?_⟩
        rintro e w8 ⟨rfl, s8, -⟩
        exact ⟨rfl, s8.below⟩
      | false =>
        have e0 : q = 12 := hq.symm.trans (if_neg Bool.false_ne_true)
        rw [e0]
        have hb6 := S6.out.below
        refine (make_name _ _ _ (by omega) Hv.out).mono ?_
        rintro e w7 ⟨rfl, hb7⟩
        have hb7' := hb6.trans (hb7.mono hb6.size)
        refine ⟨rfl, hb7', (drop_name _ _ _ (by omega) Hv.out).mono ?_⟩
        rintro e w8 ⟨rfl, hb8⟩
        exact ⟨rfl, hb7'.trans (hb8.mono hb7'.size)⟩
    refine hmk.out.mono ?_
    rintro e w7 ⟨rfl, -, hdr⟩
    have Hdr := Lib.hid hdr
    clear hdr hmk S6
    go_wp2_with fail
    refine Hdr.out.mono ?_
    rintro e w8 ⟨rfl, hb8⟩
    have HB8 := Lib.hid hb8
    have hY8 := (hb8.block _ (lt_of_heap HY4.out)).trans HY4.out
    have hX8 := (hb8.block _ (lt_of_heap HX4.out)).trans HX4.out
    have y0 : w8.cell? ⟨Y, 0, none⟩ = some (.int .i64 0) := cell_of_heap hY8 0
    have y1 : w8.cell? ⟨Y, 1, none⟩ = some (.int .i64 0) := cell_of_heap hY8 1
    have y2 : w8.cell? ⟨Y, 2, none⟩ = some (.int .i64 0) := cell_of_heap hY8 2
    have y3 : w8.cell? ⟨Y, 3, none⟩ = some (.bool false) := cell_of_heap hY8 3
    have y4 : w8.cell? ⟨Y, 4, none⟩ = some (.int .i64 ev) := cell_of_heap hY8 4
    have x0 : w8.cell? ⟨w.heap.size, 0, none⟩ = some (.int .u8 kd) := cell_of_heap hX8 0
    clear hY8 hX8 hb8 Hdr
    have HE : Hid (∀ W, Below w8.heap.size w8 W → Below w.heap.size w W) := fun W hW => HB4.out.trans ((HB8.out.trans (hW.mono HB8.out.size)).mono HB4.out.size)
    have hec' := hec.out
    clear hec
    rcases hec' with rfl | ⟨rfl, h9⟩
    all_goals
      go_wp2_with fail
      refine (valid_is wn vv (by omega) Hv.out _).mono ?_
      rintro e w9 ⟨rfl, hb9⟩
      have HE9 := Lib.hid (HE.out _ hb9)
      clear hb9 HE
      cases vv with
      | true =>
        obtain rfl : q = 0 := hq.symm.trans (if_pos rfl)
        clear hq
        go_wp2
        go_ret
        exact ⟨rfl, HE9.out⟩
      | false =>
        obtain rfl : q = 12 := hq.symm.trans (if_neg Bool.false_ne_true)
        clear hq
        go_wp2
        go_ret
        exact ⟨rfl, HE9.out⟩

theorem snilLaw_any (kd wh to : Nat) (sg nn : Int) (iss : Bool) (who : ByteArray) (w : World) (hkd : kd ≤ 255) (hwh : wh ≤ 255) (hto : to ≤ 255) (hu : Usages w) :
    Calls Tryd.prog 4 #[.agg #[.int .u8 kd, .int .u8 wh, .int .u8 to, .int .i64 sg, .int .i64 nn, .bool iss], .string who] w (TruePost w) := by
  by_cases h : (60 : Int) < (who.size : Int)
  · exact snilLaw_in kd wh to sg nn iss who (who.extract 0 60) w hkd hwh hto (by rw [ByteArray.size_extract]; omega) (.inl ⟨h, rfl⟩) hu
  · exact snilLaw_in kd wh to sg nn iss who who w hkd hwh hto (by omega) (.inr ⟨h, rfl⟩) hu

end Go.Proofs.YtemmeopaihmlcaaDoor
