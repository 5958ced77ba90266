/- PortNil: the walk. -/
import Derived.Test.YtalpkndlnfgjfaaDoorPorQ
namespace Go.Proofs.YtalpkndlnfgjfaaDoor
open Go.RowKit
attribute [local go_sem ↓] Go.wp_at_zero Go.wp_at_succ

theorem nil_step (who : ByteArray) (m e : Int) : openStep who 0 m e none = if qArgs who m e ≠ 0 then (none, qArgs who m e, 0) else (some ⟨who, e, 0, []⟩, 0, 1) := by
  unfold openStep
  by_cases h : qArgs who m e ≠ 0
  · rw [if_pos h, if_pos h]
  · rw [if_neg h, if_neg h, if_neg (by simp), if_neg (by simp [qHas])]
theorem nil_form (who : ByteArray) (m e : Int) : ∃ o' d, openStep who 0 m e none = (o', qArgs who m e, d) := by
  rw [nil_step]
  by_cases h : qArgs who m e ≠ 0
  · exact ⟨none, 0, by rw [if_pos h]⟩
  · refine ⟨some ⟨who, e, 0, []⟩, 1, ?_⟩
    rw [if_neg h]
    simp at h
    rw [h]

set_option maxRecDepth 100000 in
set_option maxHeartbeats 1600000 in
theorem nilLaw_in (kd wh us : Nat) (nu ep : Int) (sr by_ who wn : ByteArray) (w : World) (hkd : kd ≤ 255) (hwh : wh ≤ 255) (hsr : sr.size ≤ 9223372036854775807) (hby : by_.size ≤ 9223372036854775807) (hwn : wn.size ≤ 60)
    (hcut : ((60 : Int) < (who.size : Int) ∧ who.extract 0 60 = wn) ∨ (¬ (60 : Int) < (who.size : Int) ∧ who = wn)) (hu : Usages w) :
    Calls Tryd.prog 7 #[.agg #[.int .u8 kd, .int .u8 wh, .int .u8 us, .int .i64 nu, .int .i64 ep, .string sr, .string by_], .string who] w (TruePost w) := by
  have Hu := Lib.hid hu; clear hu
  have Ha : Hid (∀ o, Below w.heap.size w (w.alloc o)) := fun o => (Below.refl _ _).alloc (Nat.le_refl _) _
  have HX0 : Hid (∀ o, (w.alloc o).heap[w.heap.size]? = some o) := fun o => heap_alloc_new w o
  go_enter Tryd.func7, Tryd.ntmps7
  go_wp2_with fail
  refine (qKnown_any _ (Hu.out.below (Ha.out _) Hu.out.pos)).mono ?_
  rintro e w1 ⟨rfl, hb⟩
  have HX1 := Lib.hid ((hb.block _ (lt_of_heap (HX0.out _))).trans (HX0.out _))
  have HB1 : Hid (Below w.heap.size w w1) := (Ha.out _).trans (hb.mono (Ha.out _).size)
  clear hb HX0 Ha
  have x0 : w1.cell? ⟨w.heap.size, 0, none⟩ = some (.int .u8 kd) := cell_of_heap HX1.out 0
  have x1 : w1.cell? ⟨w.heap.size, 1, none⟩ = some (.int .u8 wh) := cell_of_heap HX1.out 1
  have x2 : w1.cell? ⟨w.heap.size, 2, none⟩ = some (.int .u8 us) := cell_of_heap HX1.out 2
  have x3 : w1.cell? ⟨w.heap.size, 3, none⟩ = some (.int .i64 nu) := cell_of_heap HX1.out 3
  have x4 : w1.cell? ⟨w.heap.size, 4, none⟩ = some (.int .i64 ep) := cell_of_heap HX1.out 4
  have x5 : w1.cell? ⟨w.heap.size, 5, none⟩ = some (.string sr) := cell_of_heap HX1.out 5
  have x6 : w1.cell? ⟨w.heap.size, 6, none⟩ = some (.string by_) := cell_of_heap HX1.out 6
  have Hcut := Lib.hid hcut; clear hcut
  have hways : (60 : Int) < (who.size : Int) ∨ ¬ (60 : Int) < (who.size : Int) := Classical.em _
  rcases hways with hc | hc
  case' inl => obtain ewn := (Hcut.out.resolve_right (fun h => by omega)).2
  case' inr => obtain rfl := (Hcut.out.resolve_left (fun h => by omega)).2.symm
  case' inl => (go_wp2_with fail; (try rw [ewn]); clear ewn)
  case' inr => go_wp2_with fail
  all_goals
    clear Hcut hc
    refine (nil_any kd wh us nu ep sr by_ _ hkd hwh hsr hby).mono ?_
    rintro e w2 ⟨rfl, hb⟩
    have HX2 := Lib.hid ((hb.block _ (lt_of_heap HX1.out)).trans HX1.out)
    have HB2 : Hid (Below w.heap.size w w2) := HB1.out.trans (hb.mono HB1.out.size)
    clear hb HX1 HB1 x0 x1 x2 x3 x4 x5 x6
    go_upto_region 6 with fail
    have HX4 := Lib.hid ((Below.heap_alloc w2 (.cells #[.string ⟨#[]⟩, .string ⟨#[]⟩, .string ⟨#[]⟩, .int .i64 1] 63) _ (lt_of_heap HX2.out)).trans HX2.out)
    have HY4 := Lib.hid (heap_alloc_new w2 (.cells #[.string ⟨#[]⟩, .string ⟨#[]⟩, .string ⟨#[]⟩, .int .i64 1] 63))
    have HB4 : Hid (Below w.heap.size w (w2.alloc (.cells #[.string ⟨#[]⟩, .string ⟨#[]⟩, .string ⟨#[]⟩, .int .i64 1] 63))) := HB2.out.alloc HB2.out.size _
    clear HX2 HB2
    generalize w2.alloc (.cells #[.string ⟨#[]⟩, .string ⟨#[]⟩, .string ⟨#[]⟩, .int .i64 1] 63) = W4 at *
    generalize w2.heap.size = Y at *
    have Hu4 := Lib.hid (Hu.out.below HB4.out Hu.out.pos)
    go_wp2_with fail
    refine (sqNew W4 Hu4.out nu).mono ?_
    rintro e w5 ⟨rfl, hnew⟩
    have Hnew := Lib.hid hnew; clear hnew
    go_wp2_with fail
    refine Hnew.out.mono ?_
    rintro e w6 ⟨rfl, s⟩
    have S6 := Lib.hid s
    have hX6 := (s.below.block _ (lt_of_heap HX4.out)).trans HX4.out
    have x3 : w6.cell? ⟨w.heap.size, 3, none⟩ = some (.int .i64 nu) := cell_of_heap hX6 3
    have x4 : w6.cell? ⟨w.heap.size, 4, none⟩ = some (.int .i64 ep) := cell_of_heap hX6 4
    clear s Hnew hX6
    obtain ⟨o', d, hst⟩ := nil_form wn nu ep
    have Hst := Lib.hid hst; clear hst
    obtain ⟨q, hq⟩ : ∃ q, qArgs wn nu ep = q := ⟨_, rfl⟩
    have Hq := Lib.hid hq; clear hq
    rw [Hq.out] at Hst
    go_wp2_with fail
    refine (sqOpen W4 w6 _ 0 nu none _ S6.out (by decide) wn 0 ep (by omega) o' q d Hst.out).mono ?_
    rintro e w7 ⟨rfl, s, -⟩
    have HB7 := Lib.hid s.below
    clear s S6 x3 x4 Hst
    go_wp2_with fail
    cases hv : validB wn with
    | false =>
      obtain rfl : q = 12 := by rw [← Hq.out]; simp [qArgs, hv]
      refine (valid_is wn _ (by omega) hv _).mono ?_
      rintro e w8 ⟨rfl, hb⟩
      have HB8 := Lib.hid (HB7.out.trans (hb.mono HB7.out.size))
      have y3 : w8.cell? ⟨Y, 3, none⟩ = some (.int .i64 1) := cell_of_heap ((HB8.out.block _ (lt_of_heap HY4.out)).trans HY4.out) 3
      have HE : Hid (Below w.heap.size w w8) := HB4.out.trans (HB8.out.mono HB4.out.size)
      clear hb
      go_wp2
      go_ret
      exact ⟨rfl, HE.out⟩
    | true =>
      refine (valid_is wn _ (by omega) hv _).mono ?_
      rintro e w8 ⟨rfl, hb⟩
      have HB8 := Lib.hid (HB7.out.trans (hb.mono HB7.out.size))
      have y3 : w8.cell? ⟨Y, 3, none⟩ = some (.int .i64 1) := cell_of_heap ((HB8.out.block _ (lt_of_heap HY4.out)).trans HY4.out) 3
      have hX8 := (HB8.out.block _ (lt_of_heap HX4.out)).trans HX4.out
      have x3 : w8.cell? ⟨w.heap.size, 3, none⟩ = some (.int .i64 nu) := cell_of_heap hX8 3
      have x4 : w8.cell? ⟨w.heap.size, 4, none⟩ = some (.int .i64 ep) := cell_of_heap hX8 4
      have HE : Hid (Below w.heap.size w w8) := HB4.out.trans (HB8.out.mono HB4.out.size)
      clear hb hX8
      by_cases h1 : nu < 1
      · have d1 : decide (nu < 1) = true := decide_eq_true h1
        obtain rfl : q = 2 := by rw [← Hq.out]; simp [qArgs, hv, h1]
        clear h1
        go_wp2
        go_ret
        exact ⟨rfl, HE.out⟩
      have d1 : decide (nu < 1) = false := decide_eq_false h1
      by_cases h2 : 9999 < nu
      · have d2 : decide (9999 < nu) = true := decide_eq_true h2
        obtain rfl : q = 2 := by rw [← Hq.out]; simp [qArgs, hv, h2]
        clear h1 h2
        go_wp2
        go_ret
        exact ⟨rfl, HE.out⟩
      have d2 : decide (9999 < nu) = false := decide_eq_false h2
      by_cases h3 : ep < 0
      · have d3 : decide (ep < 0) = true := decide_eq_true h3
        obtain rfl : q = 2 := by
          rw [← Hq.out]
          have : numB ep = false := by simp [numB]; omega
          simp [qArgs, hv, this]
        clear h1 h2 h3
        go_wp2
        go_ret
        exact ⟨rfl, HE.out⟩
      have d3 : decide (ep < 0) = false := decide_eq_false h3
      by_cases h4 : 1073741824 < ep
      · have d4 : decide (1073741824 < ep) = true := decide_eq_true h4
        obtain rfl : q = 2 := by
          rw [← Hq.out]
          have : numB ep = false := by simp [numB]; omega
          simp [qArgs, hv, this]
        clear h1 h2 h3 h4
        go_wp2
        go_ret
        exact ⟨rfl, HE.out⟩
      have d4 : decide (1073741824 < ep) = false := decide_eq_false h4
      obtain rfl : q = 0 := by
        rw [← Hq.out]
        unfold qArgs
        rw [if_neg (by rw [hv]; simp), if_neg (by simp [numB]; omega)]
      clear h1 h2 h3 h4
      go_wp2
      go_ret
      exact ⟨rfl, HE.out⟩

theorem nilLaw_any (kd wh us : Nat) (nu ep : Int) (sr by_ who : ByteArray) (w : World) (hkd : kd ≤ 255) (hwh : wh ≤ 255) (hsr : sr.size ≤ 9223372036854775807) (hby : by_.size ≤ 9223372036854775807) (hu : Usages w) :
    Calls Tryd.prog 7 #[.agg #[.int .u8 kd, .int .u8 wh, .int .u8 us, .int .i64 nu, .int .i64 ep, .string sr, .string by_], .string who] w (TruePost w) := by
  by_cases h : (60 : Int) < (who.size : Int)
  · exact nilLaw_in kd wh us nu ep sr by_ who (who.extract 0 60) w hkd hwh hsr hby (by rw [ByteArray.size_extract]; omega) (.inl ⟨h, rfl⟩) hu
  · exact nilLaw_in kd wh us nu ep sr by_ who who w hkd hwh hsr hby (by omega) (.inr ⟨h, rfl⟩) hu

end Go.Proofs.YtalpkndlnfgjfaaDoor
