/- Law 24: ViewNil. (printed by wip/gen_vni.py) -/
import Derived.Test.YtpieaakdddgdeaaDoorKnvA
import Derived.Test.YtpieaakdddgdeaaDoorNilV
import Derived.Test.YtpieaakdddgdeaaDoorShoA
namespace Go.Proofs.YtpieaakdddgdeaaDoor
open Go.RowKit
attribute [local go_sem ↓] Go.wp_at_zero Go.wp_at_succ
/-- A new empty state, and a view of it. -/
theorem newView_any (w : World) (hu : Usages w) : Calls Tryd.prog 9 #[] w fun r w1 => r = .returned (.pointer (some ⟨w.heap.size, 0, none⟩)) ∧ Below w.heap.size w w1 ∧ Calls Tryd.prog 8 #[.pointer (some ⟨w.heap.size, 0, none⟩)] w1 fun r w2 => r = .returned (.pointer (some ⟨w1.heap.size + 2, 0, none⟩)) ∧ Below w1.heap.size w1 w2 := by
  refine (stateNew_any w).mono ?_
  rintro r w1 ⟨rfl, rfl⟩
  have hb : Below w.heap.size w (w.alloc (.cells #[.pointer none] 77)) := (Below.refl _ _).alloc (Nat.le_refl _) _
  refine ⟨rfl, hb, ?_⟩
  refine (qmNew (w0 := w.alloc (.cells #[.pointer none] 77)) (hu.below hb hu.pos) (Below.refl _ _) (baseN_empty w)).mono ?_
  rintro r w2 ⟨rfl, s, -⟩
  exact ⟨rfl, s.below⟩

set_option maxRecDepth 100000 in
set_option maxHeartbeats 3200000 in
theorem viewNil_any (k : Int) (o : ByteArray) (nu ix : Int) (t v : ByteArray) (ab : Bool) (w : World) (hu : Usages w) (ho : o.size ≤ 9223372036854775807) (ht : t.size ≤ 9223372036854775807) (hv : v.size ≤ 9223372036854775807) :
    Calls Tryd.prog 4 #[.agg #[.int .i64 k, .string o, .int .i64 nu, .int .i64 ix, .string t, .string v, .bool ab]] w (TruePost w) := by
  have Hu := Lib.hid hu; clear hu
  have HB0 : Hid (∀ x, Below w.heap.size w (w.alloc x)) := fun x => (Below.refl _ _).alloc (Nat.le_refl _) _
  have HX0 : Hid (∀ x, (w.alloc x).heap[w.heap.size]? = some x) := fun x => heap_alloc_new w x
  go_enter Tryd.func4, Tryd.ntmps4
  go_wp2_with fail
  refine (known24_any _ (Hu.out.below (HB0.out _) Hu.out.pos)).mono ?_
  rintro r w1 ⟨rfl, hb⟩
  have HX1 := (hb.block w.heap.size (by simp)).trans (HX0.out _)
  have HB1 : Hid (Below w.heap.size w w1) := (HB0.out _).trans (hb.mono (HB0.out _).size)
  have x0 : w1.cell? ⟨w.heap.size, 0, none⟩ = some (.int .i64 k) := cell_of_heap HX1 0
  have x1 : w1.cell? ⟨w.heap.size, 1, none⟩ = some (.string o) := cell_of_heap HX1 1
  have x2 : w1.cell? ⟨w.heap.size, 2, none⟩ = some (.int .i64 nu) := cell_of_heap HX1 2
  have x3 : w1.cell? ⟨w.heap.size, 3, none⟩ = some (.int .i64 ix) := cell_of_heap HX1 3
  have x4 : w1.cell? ⟨w.heap.size, 4, none⟩ = some (.string t) := cell_of_heap HX1 4
  have x5 : w1.cell? ⟨w.heap.size, 5, none⟩ = some (.string v) := cell_of_heap HX1 5
  have x6 : w1.cell? ⟨w.heap.size, 6, none⟩ = some (.bool ab) := cell_of_heap HX1 6
  clear hb HX0 HB0
  have HXh := Lib.hid HX1; clear HX1
  go_wp2_with fail
  refine (short_any k o nu ix t v ab w1 ho ht hv).mono ?_
  rintro r w2 ⟨rfl, hb⟩
  have HB2 : Hid (Below w.heap.size w w2) := HB1.out.trans (hb.mono HB1.out.size)
  clear hb HB1 x0 x1 x2 x3 x4 x5 x6 HXh
  generalize cutB o 100 = oo at *
  generalize cutB t 100 = tt at *
  generalize cutB v 70 = vv at *
  have hfd : ∀ W : World, (Instr.field 42 (.agg #[.int .i64 k, .string oo, .int .i64 nu, .int .i64 ix, .string tt, .string vv, .bool ab]) 0).run Tryd.prog W = .ok (.agg #[.int .i64 k, .string oo, .int .i64 nu, .int .i64 ix, .string tt]) W := fun _ => by kernel_rfl
  go_wp2_with fail
  refine (to04_any k oo nu ix tt w2).mono ?_
  rintro r w3 ⟨rfl, hb⟩
  have HB3 : Hid (Below w.heap.size w w3) := HB2.out.trans (hb.mono HB2.out.size)
  have HY0 : Hid (∀ x, (w3.alloc x).heap[w3.heap.size]? = some x) := fun x => heap_alloc_new w3 x
  have HBa : Hid (∀ x, Below w.heap.size w (w3.alloc x)) := fun x => HB3.out.alloc HB3.out.size x
  clear hb HB2 hfd
  go_wp2_with fail
  refine (vnGet k oo nu ix tt _).mono ?_
  rintro r w4 ⟨rfl, hb⟩
  have HY4 := Lib.hid ((hb.block w3.heap.size (by simp)).trans (HY0.out _))
  have HB4 : Hid (Below w.heap.size w w4) := (HBa.out _).trans (hb.mono (HBa.out _).size)
  clear hb HY0 HBa HB3
  go_wp2_with fail
  refine (vnAfter _).mono ?_
  rintro r w5 ⟨rfl, hb⟩
  have HB5 : Hid (Below w.heap.size w w5) := HB4.out.trans (hb.mono HB4.out.size)
  have HY5 := Lib.hid ((hb.block w3.heap.size (lt_of_heap HY4.out)).trans HY4.out)
  clear hb HB4
  go_wp2_with fail
  refine (vnNew _).mono ?_
  rintro r w6 ⟨rfl, hb⟩
  have HB6 : Hid (Below w.heap.size w w6) := HB5.out.trans (hb.mono HB5.out.size)
  have HY6 := Lib.hid ((hb.block w3.heap.size (lt_of_heap HY5.out)).trans HY5.out)
  clear hb HB5
  have y0 : w6.cell? ⟨w3.heap.size, 0, none⟩ = some (.int .i64 k) := cell_of_heap HY6.out 0
  have y1 : w6.cell? ⟨w3.heap.size, 1, none⟩ = some (.string oo) := cell_of_heap HY6.out 1
  have y2 : w6.cell? ⟨w3.heap.size, 2, none⟩ = some (.int .i64 nu) := cell_of_heap HY6.out 2
  have y3 : w6.cell? ⟨w3.heap.size, 3, none⟩ = some (.int .i64 ix) := cell_of_heap HY6.out 3
  have y4 : w6.cell? ⟨w3.heap.size, 4, none⟩ = some (.string tt) := cell_of_heap HY6.out 4
  go_wp2_with fail
  refine (vnHas k oo nu ix tt _).mono ?_
  rintro r w7 ⟨rfl, hb⟩
  have HB7 : Hid (Below w.heap.size w w7) := HB6.out.trans (hb.mono HB6.out.size)
  have HY7 := Lib.hid ((hb.block w3.heap.size (lt_of_heap HY6.out)).trans HY6.out)
  clear hb HB6 y0 y1 y2 y3 y4
  have y0 : w7.cell? ⟨w3.heap.size, 0, none⟩ = some (.int .i64 k) := cell_of_heap HY7.out 0
  have y1 : w7.cell? ⟨w3.heap.size, 1, none⟩ = some (.string oo) := cell_of_heap HY7.out 1
  have y2 : w7.cell? ⟨w3.heap.size, 2, none⟩ = some (.int .i64 nu) := cell_of_heap HY7.out 2
  have y3 : w7.cell? ⟨w3.heap.size, 3, none⟩ = some (.int .i64 ix) := cell_of_heap HY7.out 3
  have y4 : w7.cell? ⟨w3.heap.size, 4, none⟩ = some (.string tt) := cell_of_heap HY7.out 4
  go_wp2_with fail
  refine (vnSet k oo nu ix tt ⟨#[97]⟩ _).mono ?_
  rintro r w8 ⟨rfl, hb⟩
  have HB8 : Hid (Below w.heap.size w w8) := HB7.out.trans (hb.mono HB7.out.size)
  have HY8 := Lib.hid ((hb.block w3.heap.size (lt_of_heap HY7.out)).trans HY7.out)
  clear hb HB7 y0 y1 y2 y3 y4
  have y0 : w8.cell? ⟨w3.heap.size, 0, none⟩ = some (.int .i64 k) := cell_of_heap HY8.out 0
  have y1 : w8.cell? ⟨w3.heap.size, 1, none⟩ = some (.string oo) := cell_of_heap HY8.out 1
  have y2 : w8.cell? ⟨w3.heap.size, 2, none⟩ = some (.int .i64 nu) := cell_of_heap HY8.out 2
  have y3 : w8.cell? ⟨w3.heap.size, 3, none⟩ = some (.int .i64 ix) := cell_of_heap HY8.out 3
  have y4 : w8.cell? ⟨w3.heap.size, 4, none⟩ = some (.string tt) := cell_of_heap HY8.out 4
  go_wp2_with fail
  refine (vnDel k oo nu ix tt _).mono ?_
  rintro r w9 ⟨rfl, hb⟩
  have HB9 : Hid (Below w.heap.size w w9) := HB8.out.trans (hb.mono HB8.out.size)
  clear hb HB8 y0 y1 y2 y3 y4
  go_wp2_with fail
  refine (vnMark _).mono ?_
  rintro r w10 ⟨rfl, hb⟩
  have HB10 : Hid (Below w.heap.size w w10) := HB9.out.trans (hb.mono HB9.out.size)
  clear hb HB9
  go_wp2_with fail
  refine (vnRollback 0 _).mono ?_
  rintro r w11 ⟨rfl, hb⟩
  have HB11 : Hid (Below w.heap.size w w11) := HB10.out.trans (hb.mono HB10.out.size)
  clear hb HB10
  go_wp2_with fail
  refine (vnReads _).mono ?_
  rintro r w12 ⟨rfl, hb⟩
  have HB12 : Hid (Below w.heap.size w w12) := HB11.out.trans (hb.mono HB11.out.size)
  clear hb HB11
  go_wp2_with fail
  refine (vnWrites _).mono ?_
  rintro r w13 ⟨rfl, hb⟩
  have HB13 : Hid (Below w.heap.size w w13) := HB12.out.trans (hb.mono HB12.out.size)
  clear hb HB12
  go_wp2_with fail
  refine (vnClone _).mono ?_
  rintro r w14 ⟨rfl, hb⟩
  have HB14 : Hid (Below w.heap.size w w14) := HB13.out.trans (hb.mono HB13.out.size)
  clear hb HB13
  go_wp2_with fail
  refine (vnEqual _).mono ?_
  rintro r w15 ⟨rfl, hb⟩
  have HB15 : Hid (Below w.heap.size w w15) := HB14.out.trans (hb.mono HB14.out.size)
  clear hb HB14
  go_wp2_with fail
  refine (newView_any w15 (Hu.out.below HB15.out Hu.out.pos)).mono ?_
  rintro r w16 ⟨rfl, hb, hnext⟩
  have HB16 : Hid (Below w.heap.size w w16) := HB15.out.trans (hb.mono HB15.out.size)
  have HN := Lib.hid hnext
  clear hb hnext HB15
  go_wp2_with fail
  refine HN.out.mono ?_
  rintro r w17 ⟨rfl, hb⟩
  have HB17 : Hid (Below w.heap.size w w17) := HB16.out.trans (hb.mono HB16.out.size)
  clear hb HN HB16
  go_wp2_with fail
  refine (vnEqual1 _ _).mono ?_
  rintro r w18 ⟨rfl, hb⟩
  have HB18 : Hid (Below w.heap.size w w18) := HB17.out.trans (hb.mono HB17.out.size)
  clear hb HB17
  go_wp2_with fail
  refine (newView_any w18 (Hu.out.below HB18.out Hu.out.pos)).mono ?_
  rintro r w19 ⟨rfl, hb, hnext⟩
  have HB19 : Hid (Below w.heap.size w w19) := HB18.out.trans (hb.mono HB18.out.size)
  have HN := Lib.hid hnext
  clear hb hnext HB18
  go_wp2_with fail
  refine HN.out.mono ?_
  rintro r w20 ⟨rfl, hb⟩
  have HB20 : Hid (Below w.heap.size w w20) := HB19.out.trans (hb.mono HB19.out.size)
  clear hb HN HB19
  go_wp2_with fail
  refine (vnEqual2 _ _).mono ?_
  rintro r w21 ⟨rfl, hb⟩
  have HB21 : Hid (Below w.heap.size w w21) := HB20.out.trans (hb.mono HB20.out.size)
  clear hb HB20
  go_wp2
  go_ret
  exact ⟨rfl, HB21.out⟩
end Go.Proofs.YtpieaakdddgdeaaDoor
