/- law 08: GraphViews. (printed by wip/gen_gmlv.py) -/
import Derived.Test.YteiddebjbiadbaaGmLw
namespace Go.Proofs.Yteiddebjbiadbaa
open Go.RowKit Gr
attribute [local go_sem ↓] Go.wp_at_zero Go.wp_at_succ

theorem run_field_Gs (w : World) (n : Int) (a : Option Addr) (m c : Nat) : (Instr.field 27 (.agg #[.int .i64 n, .slice a m c]) 1).run Try.prog w = .ok (.slice a m c) w := by
  simp [Instr.field, asAgg, go_sem]
attribute [local go_sem ↓] run_field_Gs
set_option linter.unusedSimpArgs false in
set_option maxRecDepth 100000 in
set_option maxHeartbeats 3200000 in
theorem lawViews_any {w : World} {m : Nat} {v : Value} {l : List (Int × Int)} (h : RowK kE w v l) (hl : l.length ≤ 9223372036854775807) (hm : m ≤ 255) (x : Int) :
    Calls Try.prog 9 #[.int .u8 (m : Int), v, .int .i64 x] w (TruePost w) := by
  obtain ⟨av, cv, rfl, -⟩ := h.form
  have HBx : Hid (Below w.heap.size w w) := Below.refl _ _
  have Hm := Lib.hid hm
  have Hl := Lib.hid hl
  have H := Lib.hid h
  clear h
  go_enter Try.func9, Try.ntmps9
  go_wp2_with fail
  refine (known_any _).mono ?_
  rintro r x2 ⟨rfl, hb2⟩
  have HB2 : Hid (Below w.heap.size w x2) := HBx.out.trans (hb2.mono HBx.out.size)
  clear hb2
  have HK := Lib.hid (make_any (H.out.later HB2.out) Hl.out Hm.out)
  go_wp2_with fail
  refine HK.out.mono ?_
  rintro r x3 ⟨hb3, n, p, vg, es, rfl, hn1, hn30, hes, hnm, hin, hG, hO, hp⟩
  have HB3 : Hid (Below w.heap.size w x3) := HB2.out.trans (hb3.mono HB2.out.size)
  have Hn : Hid (1 ≤ n ∧ n ≤ 30 ∧ es.length ≤ 120) := ⟨hn1, hn30, hes⟩
  have Hin := Lib.hid hin
  have Hnm := Lib.hid hnm
  have HG := Lib.hid hG
  obtain ⟨ga, gc, egv, -⟩ := hO.row.form
  obtain ⟨gm, hgm⟩ : ∃ m, (es.map ofEd).length = m := ⟨_, rfl⟩
  rw [hgm] at egv
  subst egv
  have HO := Lib.hid hO
  clear hgm hb3 hn1 hn30 hes hnm hin hG hO hp HK
  go_upto_region 4 with fail
  obtain ⟨y0, hy0⟩ : ∃ y, x3.alloc (.cells #[.int .i64 (n : Int), .slice ga gm gc] 27) = y := ⟨_, rfl⟩
  have hb4 : Below x3.heap.size x3 y0 := by rw [← hy0]; exact (Below.refl _ _).alloc (Nat.le_refl _) _
  have HT : Hid (RowIs y0 x3.heap.size 27 [.int .i64 (n : Int), .slice ga gm gc]) := by rw [← hy0]; exact new_row _ _ _
  rw [hy0]
  have HBy : Hid (Below w.heap.size w y0) := HB3.out.trans (hb4.mono HB3.out.size)
  have HGy := Lib.hid (HG.out.later hb4)
  have HOy := Lib.hid (HO.out.later hb4)
  clear hy0 hb4 HG HO HB3 HB2 HBx
  obtain ⟨t, ht⟩ : ∃ t, x3.heap.size = t := ⟨_, rfl⟩
  rw [ht] at HT ⊢
  clear ht
  have HAf : Hid (∀ (x : Int) (W : World), Below y0.heap.size y0 W → Calls Try.prog 30 #[.pointer (some ⟨p, 0, none⟩), .int .i64 x] W (RowR (aftI (es.map ofEd) x) W)) := fun x W hW => after_r (HGy.out.later hW) Hin.out x
  have HBf : Hid (∀ (x : Int) (W : World), Below y0.heap.size y0 W → Calls Try.prog 32 #[.pointer (some ⟨p, 0, none⟩), .int .i64 x] W (RowR (befI (es.map ofEd) x) W)) := fun x W hW => before_r (HGy.out.later hW) Hin.out x
  have HrA : Hid (∀ (x : Int) (W : World), Below y0.heap.size y0 W → Calls Try.prog 31 #[.agg #[.int .i64 (n : Int), .slice ga gm gc], .int .i64 x] W (RowR (aftI (es.map ofEd) x) W)) := fun x W hW => rafter_r (HOy.out.row.later hW) (by have := Hn.out; omega) x
  have HrB : Hid (∀ (x : Int) (W : World), Below y0.heap.size y0 W → Calls Try.prog 33 #[.agg #[.int .i64 (n : Int), .slice ga gm gc], .int .i64 x] W (RowR (befI (es.map ofEd) x) W)) := fun x W hW => rbefore_r (HOy.out.row.later hW) (by have := Hn.out; omega) x
  have HHs : Hid (∀ (x y : Int) (W : World), Below y0.heap.size y0 W → Calls Try.prog 28 #[.pointer (some ⟨p, 0, none⟩), .int .i64 x, .int .i64 y] W (IsB (hasB n es x y) W)) := fun x y W hW => has_r (HGy.out.later hW) Hnm.out x y
  have HRv : Hid (∀ (W : World), Below y0.heap.size y0 W → Calls Try.prog 35 #[.agg #[.int .i64 (n : Int), .slice ga gm gc]] W fun r w' => ∃ v', r = .returned (.agg #[.int .i64 (n : Int), v']) ∧ OwnK kE W.heap.size w' v' ((refNew (turn es)).map ofEd) ∧ Below W.heap.size W w') := fun W hW => rRev_any (HOy.out.row.later hW) (by have := Hn.out; omega) Hin.out (by have := Hn.out; omega)
  have HLa : Hid (∀ x : Int, (aftI (es.map ofEd) x).length ≤ 1000000) := fun x => by have := aftI_le (es.map ofEd) x; rw [List.length_map] at this; have := Hn.out; omega
  have HLb : Hid (∀ x : Int, (befI (es.map ofEd) x).length ≤ 1000000) := fun x => by have := befI_le (es.map ofEd) x; rw [List.length_map] at this; have := Hn.out; omega
  have e0 := HT.out.cell (i := 0) rfl
  have e1 := HT.out.cell (i := 1) rfl
  refine wp_region_held_drew (S := (fun W => W.cell? ⟨t, 0, none⟩ = some (.int .i64 (n : Int)) ∧ W.cell? ⟨t, 1, none⟩ = some (.slice ga gm gc))) (by kernel_rfl) (⟨e0, e1⟩) (fun hHa0 => ?_)
  refine wpAnyH_take (i := 0) (v := ?_) rfl (by kernel_rfl) (by kernel_rfl) (by kernel_rfl) (fun _ _ _ h => h) (Or.inl ⟨by rfl, ?_⟩) (by assumption) ?_
  rotate_left
  · (intro wx hSw; (try dsimp only at hSw); go_simp <;> with_reducible rfl)
  try simp only [Act.put, List.setIfInBounds_toArray, List.set_cons_zero, List.set_cons_succ, List.getElem_toArray, List.getElem_cons_zero, List.getElem_cons_succ]
  refine wpAnyH_take (i := 1) (v := ?_) rfl (by kernel_rfl) (by kernel_rfl) (by kernel_rfl) (fun _ _ _ h => h) (Or.inl ⟨by rfl, ?_⟩) (by assumption) ?_
  rotate_left
  · (intro wx hSw; (try dsimp only at hSw); go_simp <;> with_reducible rfl)
  try simp only [Act.put, List.setIfInBounds_toArray, List.set_cons_zero, List.set_cons_succ, List.getElem_toArray, List.getElem_cons_zero, List.getElem_cons_succ]
  refine wpAnyH_take (i := 2) (v := ?_) rfl (by kernel_rfl) (by kernel_rfl) (by kernel_rfl) (fun _ _ _ h => h) (Or.inl ⟨by rfl, ?_⟩) (by assumption) ?_
  rotate_left
  · (intro wx hSw; (try dsimp only at hSw); go_simp <;> with_reducible rfl)
  try simp only [Act.put, List.setIfInBounds_toArray, List.set_cons_zero, List.set_cons_succ, List.getElem_toArray, List.getElem_cons_zero, List.getElem_cons_succ]
  refine wpAnyH_take (i := 3) (v := ?_) rfl (by kernel_rfl) (by kernel_rfl) (by kernel_rfl) (fun _ _ _ h => h) (Or.inl ⟨by rfl, ?_⟩) (by assumption) ?_
  rotate_left
  · (intro wx hSw; (try dsimp only at hSw); go_simp <;> with_reducible rfl)
  try simp only [Act.put, List.setIfInBounds_toArray, List.set_cons_zero, List.set_cons_succ, List.getElem_toArray, List.getElem_cons_zero, List.getElem_cons_succ]
  refine wpAnyH_take (i := 4) (v := ?_) rfl (by kernel_rfl) (by kernel_rfl) (by kernel_rfl) (fun _ _ _ h => h) (Or.inl ⟨by rfl, ?_⟩) (by assumption) ?_
  rotate_left
  · (intro wx hSw; (try dsimp only at hSw); go_simp <;> with_reducible rfl)
  try simp only [Act.put, List.setIfInBounds_toArray, List.set_cons_zero, List.set_cons_succ, List.getElem_toArray, List.getElem_cons_zero, List.getElem_cons_succ]
  refine wpAnyH_take (i := 6) (v := ?_) rfl (by kernel_rfl) (by kernel_rfl) (by kernel_rfl) (fun _ _ _ h => h) (Or.inl ⟨by rfl, ?_⟩) (by assumption) ?_
  rotate_left
  · (intro wx hSw; (try dsimp only at hSw); go_simp <;> with_reducible rfl)
  try simp only [Act.put, List.setIfInBounds_toArray, List.set_cons_zero, List.set_cons_succ, List.getElem_toArray, List.getElem_cons_zero, List.getElem_cons_succ]
  refine wpAnyH_take (i := 7) (v := ?_) rfl (by kernel_rfl) (by kernel_rfl) (by kernel_rfl) (fun _ _ _ h => h) (Or.inl ⟨by rfl, ?_⟩) (by assumption) ?_
  rotate_left
  · (intro wx hSw; (try dsimp only at hSw); go_simp <;> with_reducible rfl)
  try simp only [Act.put, List.setIfInBounds_toArray, List.set_cons_zero, List.set_cons_succ, List.getElem_toArray, List.getElem_cons_zero, List.getElem_cons_succ]
  refine wpAnyH_ready (rs := [5]) (by kernel_rfl) (by simp) ?_
  refine AllReadyH.cons rfl (fun K hK => ?_) AllReadyH.nil
  go_simp
  go_at_call 30
  with_reducible refine (HAf.out x _ (((Below.refl y0.heap.size y0)).drew)).mono ?_
  rintro r za1 ⟨u1, rfl, hr, hb⟩
  have HBa1 : Hid (Below y0.heap.size y0 za1) := (((Below.refl y0.heap.size y0)).drew).trans (hb.mono (((Below.refl y0.heap.size y0)).drew).size)
  have Hr1 := Lib.hid hr
  clear hr
  go_wp2_with fail
  refine hK.out _ _ (⟨cellL hHa0.1 hb, cellL hHa0.2 hb⟩) (fun hHa1 => ?_)
  clear hK K hHa0
  try simp only [Act.put, List.setIfInBounds_toArray, List.set_cons_zero, List.set_cons_succ, List.getElem_toArray, List.getElem_cons_zero, List.getElem_cons_succ]
  clear hb
  refine wpAnyH_ready (rs := [8]) (by kernel_rfl) (by simp) ?_
  refine AllReadyH.cons rfl (fun K hK => ?_) AllReadyH.nil
  go_simp
  go_at_call 31
  with_reducible refine (HrA.out x za1 (HBa1.out)).mono ?_
  rintro r za2 ⟨u2, rfl, hr, hb⟩
  have HBa2 : Hid (Below y0.heap.size y0 za2) := (HBa1.out).trans (hb.mono (HBa1.out).size)
  have HS := Lib.hid (same_i (Hr1.out.later hb) hr (HLa.out x))
  clear hr Hr1
  go_wp2_with fail
  refine hK.out _ _ (⟨cellL hHa1.1 hb, cellL hHa1.2 hb⟩) (fun hHa2 => ?_)
  clear hK K hHa1
  try simp only [Act.put, List.setIfInBounds_toArray, List.set_cons_zero, List.set_cons_succ, List.getElem_toArray, List.getElem_cons_zero, List.getElem_cons_succ]
  clear hb
  refine wpAnyH_ready (rs := [9]) (by kernel_rfl) (by simp) ?_
  refine AllReadyH.cons rfl (fun K hK => ?_) AllReadyH.nil
  go_simp
  go_at_call 15
  with_reducible refine (HS.out).mono ?_
  rintro r za3 ⟨rfl, hb⟩
  have HBa3 : Hid (Below y0.heap.size y0 za3) := (HBa2.out).trans (hb.mono (HBa2.out).size)
  clear HS
  go_wp2_with fail
  refine hK.out _ _ (⟨cellL hHa2.1 hb, cellL hHa2.2 hb⟩) (fun hHa3 => ?_)
  clear hK K hHa2
  try simp only [Act.put, List.setIfInBounds_toArray, List.set_cons_zero, List.set_cons_succ, List.getElem_toArray, List.getElem_cons_zero, List.getElem_cons_succ]
  clear hb
  refine wpAnyH_take (i := 10) (v := ?_) rfl (by kernel_rfl) (by kernel_rfl) (by kernel_rfl) (fun _ _ _ h => h) (Or.inl ⟨by rfl, ?_⟩) (by assumption) ?_
  rotate_left
  · (intro wx hSw; (try dsimp only at hSw); go_simp <;> with_reducible rfl)
  try simp only [Act.put, List.setIfInBounds_toArray, List.set_cons_zero, List.set_cons_succ, List.getElem_toArray, List.getElem_cons_zero, List.getElem_cons_succ]
  refine wpAnyH_take (i := 11) (v := ?_) rfl (by kernel_rfl) (by kernel_rfl) (by kernel_rfl) (fun _ _ _ h => h) (Or.inl ⟨by rfl, ?_⟩) (by assumption) ?_
  rotate_left
  · (intro wx hSw; (try dsimp only at hSw); go_simp <;> with_reducible rfl)
  try simp only [Act.put, List.setIfInBounds_toArray, List.set_cons_zero, List.set_cons_succ, List.getElem_toArray, List.getElem_cons_zero, List.getElem_cons_succ]
  refine wpAnyH_take (i := 12) (v := ?_) rfl (by kernel_rfl) (by kernel_rfl) (by kernel_rfl) (fun _ _ _ h => h) (Or.inl ⟨by rfl, ?_⟩) (by assumption) ?_
  rotate_left
  · (intro wx hSw; (try dsimp only at hSw); go_simp <;> with_reducible rfl)
  try simp only [Act.put, List.setIfInBounds_toArray, List.set_cons_zero, List.set_cons_succ, List.getElem_toArray, List.getElem_cons_zero, List.getElem_cons_succ]
  refine wpAnyH_take (i := 13) (v := ?_) rfl (by kernel_rfl) (by kernel_rfl) (by kernel_rfl) (fun _ _ _ h => h) (Or.inl ⟨by rfl, ?_⟩) (by assumption) ?_
  rotate_left
  · (intro wx hSw; (try dsimp only at hSw); go_simp <;> with_reducible rfl)
  try simp only [Act.put, List.setIfInBounds_toArray, List.set_cons_zero, List.set_cons_succ, List.getElem_toArray, List.getElem_cons_zero, List.getElem_cons_succ]
  refine wpAnyH_take (i := 14) (v := ?_) rfl (by kernel_rfl) (by kernel_rfl) (by kernel_rfl) (fun _ _ _ h => h) (Or.inl ⟨by rfl, ?_⟩) (by assumption) ?_
  rotate_left
  · (intro wx hSw; (try dsimp only at hSw); go_simp <;> with_reducible rfl)
  try simp only [Act.put, List.setIfInBounds_toArray, List.set_cons_zero, List.set_cons_succ, List.getElem_toArray, List.getElem_cons_zero, List.getElem_cons_succ]
  refine wpAnyH_take (i := 16) (v := ?_) rfl (by kernel_rfl) (by kernel_rfl) (by kernel_rfl) (fun _ _ _ h => h) (Or.inl ⟨by rfl, ?_⟩) (by assumption) ?_
  rotate_left
  · (intro wx hSw; (try dsimp only at hSw); go_simp <;> with_reducible rfl)
  try simp only [Act.put, List.setIfInBounds_toArray, List.set_cons_zero, List.set_cons_succ, List.getElem_toArray, List.getElem_cons_zero, List.getElem_cons_succ]
  refine wpAnyH_take (i := 17) (v := ?_) rfl (by kernel_rfl) (by kernel_rfl) (by kernel_rfl) (fun _ _ _ h => h) (Or.inl ⟨by rfl, ?_⟩) (by assumption) ?_
  rotate_left
  · (intro wx hSw; (try dsimp only at hSw); go_simp <;> with_reducible rfl)
  try simp only [Act.put, List.setIfInBounds_toArray, List.set_cons_zero, List.set_cons_succ, List.getElem_toArray, List.getElem_cons_zero, List.getElem_cons_succ]
  refine wpAnyH_ready (rs := [15]) (by kernel_rfl) (by simp) ?_
  refine AllReadyH.cons rfl (fun K hK => ?_) AllReadyH.nil
  go_simp
  go_at_call 32
  with_reducible refine (HBf.out x za3 (HBa3.out)).mono ?_
  rintro r za4 ⟨u3, rfl, hr, hb⟩
  have HBa4 : Hid (Below y0.heap.size y0 za4) := (HBa3.out).trans (hb.mono (HBa3.out).size)
  have Hr1 := Lib.hid hr
  clear hr
  go_wp2_with fail
  refine hK.out _ _ (⟨cellL hHa3.1 hb, cellL hHa3.2 hb⟩) (fun hHa4 => ?_)
  clear hK K hHa3
  try simp only [Act.put, List.setIfInBounds_toArray, List.set_cons_zero, List.set_cons_succ, List.getElem_toArray, List.getElem_cons_zero, List.getElem_cons_succ]
  clear hb
  refine wpAnyH_ready (rs := [18]) (by kernel_rfl) (by simp) ?_
  refine AllReadyH.cons rfl (fun K hK => ?_) AllReadyH.nil
  go_simp
  go_at_call 33
  with_reducible refine (HrB.out x za4 (HBa4.out)).mono ?_
  rintro r za5 ⟨u4, rfl, hr, hb⟩
  have HBa5 : Hid (Below y0.heap.size y0 za5) := (HBa4.out).trans (hb.mono (HBa4.out).size)
  have HS := Lib.hid (same_i (Hr1.out.later hb) hr (HLb.out x))
  clear hr Hr1
  go_wp2_with fail
  refine hK.out _ _ (⟨cellL hHa4.1 hb, cellL hHa4.2 hb⟩) (fun hHa5 => ?_)
  clear hK K hHa4
  try simp only [Act.put, List.setIfInBounds_toArray, List.set_cons_zero, List.set_cons_succ, List.getElem_toArray, List.getElem_cons_zero, List.getElem_cons_succ]
  clear hb
  refine wpAnyH_ready (rs := [19]) (by kernel_rfl) (by simp) ?_
  refine AllReadyH.cons rfl (fun K hK => ?_) AllReadyH.nil
  go_simp
  go_at_call 15
  with_reducible refine (HS.out).mono ?_
  rintro r za6 ⟨rfl, hb⟩
  have HBa6 : Hid (Below y0.heap.size y0 za6) := (HBa5.out).trans (hb.mono (HBa5.out).size)
  clear HS
  go_wp2_with fail
  refine hK.out _ _ (⟨cellL hHa5.1 hb, cellL hHa5.2 hb⟩) (fun hHa6 => ?_)
  clear hK K hHa5
  try simp only [Act.put, List.setIfInBounds_toArray, List.set_cons_zero, List.set_cons_succ, List.getElem_toArray, List.getElem_cons_zero, List.getElem_cons_succ]
  clear hb
  refine wpAnyH_take (i := 20) (v := ?_) rfl (by kernel_rfl) (by kernel_rfl) (by kernel_rfl) (fun _ _ _ h => h) (Or.inl ⟨by rfl, ?_⟩) (by assumption) ?_
  rotate_left
  · (intro wx hSw; (try dsimp only at hSw); go_simp <;> with_reducible rfl)
  try simp only [Act.put, List.setIfInBounds_toArray, List.set_cons_zero, List.set_cons_succ, List.getElem_toArray, List.getElem_cons_zero, List.getElem_cons_succ]
  refine wpAnyH_take (i := 21) (v := ?_) rfl (by kernel_rfl) (by kernel_rfl) (by kernel_rfl) (fun _ _ _ h => h) (Or.inl ⟨by rfl, ?_⟩) (by assumption) ?_
  rotate_left
  · (intro wx hSw; (try dsimp only at hSw); go_simp <;> with_reducible rfl)
  try simp only [Act.put, List.setIfInBounds_toArray, List.set_cons_zero, List.set_cons_succ, List.getElem_toArray, List.getElem_cons_zero, List.getElem_cons_succ]
  refine wpAnyH_done (by kernel_rfl) ?_ _
  clear e0 e1
  go_wp2
  go_loopg [9] n (fun gk iv wr => ∃ a : Nat, Hid (a + gk = n) ∧ iv = .int .i64 a ∧ Hid (Below y0.heap.size y0 wr))
  case atStart => exact ⟨0, Nat.zero_add _, rfl, HBa6.out⟩
  case round =>
    clear HBa1 HBa2 HBa3 HBa4 HBa5 HBa6
    obtain ⟨a, Ha, rfl, HB⟩ := hrel
    have e0 := cellL (HT.out.cell (i := 0) rfl) HB.out
    have e1 := cellL (HT.out.cell (i := 1) rfl) HB.out
    by_cases hlt : a < n
    · have hai : (a : Int) < (n : Int) := by omega
      have has : a ≤ 30 := by have := Hn.out; omega
      have Hlt := Lib.hid hlt
      clear hlt
      go_wp2_with fail
      refine (HrA.out (a : Int) _ HB.out).mono ?_
      rintro r c1 ⟨u1, rfl, hr1, hb⟩
      have HB1 : Hid (Below y0.heap.size y0 c1) := HB.out.trans (hb.mono HB.out.size)
      have e0 := cellL (HT.out.cell (i := 0) rfl) HB1.out
      have e1 := cellL (HT.out.cell (i := 1) rfl) HB1.out
      obtain ⟨al, cl, el, -⟩ := hr1.form
      obtain ⟨ml, hml⟩ : ∃ m, (aftI (es.map ofEd) (a : Int)).length = m := ⟨_, rfl⟩
      have Hml := Lib.hid hml
      rw [hml] at el
      subst el
      have Hrow := Lib.hid hr1
      clear hr1 hb hml HB
      go_upto_region 10 with fail
      refine wp_region_held_drew (S := (fun W => W.cell? ⟨t, 0, none⟩ = some (.int .i64 (n : Int)) ∧ W.cell? ⟨t, 1, none⟩ = some (.slice ga gm gc))) (by kernel_rfl) (⟨e0, e1⟩) (fun hHb0 => ?_)
      refine wpAnyH_take (i := 0) (v := ?_) rfl (by kernel_rfl) (by kernel_rfl) (by kernel_rfl) (fun _ _ _ h => h) (Or.inl ⟨by rfl, ?_⟩) (by assumption) ?_
      rotate_left
      · (intro wx hSw; (try dsimp only at hSw); go_simp <;> with_reducible rfl)
      try simp only [Act.put, List.setIfInBounds_toArray, List.set_cons_zero, List.set_cons_succ, List.getElem_toArray, List.getElem_cons_zero, List.getElem_cons_succ]
      refine wpAnyH_take (i := 1) (v := ?_) rfl (by kernel_rfl) (by kernel_rfl) (by kernel_rfl) (fun _ _ _ h => h) (Or.inl ⟨by rfl, ?_⟩) (by assumption) ?_
      rotate_left
      · (intro wx hSw; (try dsimp only at hSw); go_simp <;> with_reducible rfl)
      try simp only [Act.put, List.setIfInBounds_toArray, List.set_cons_zero, List.set_cons_succ, List.getElem_toArray, List.getElem_cons_zero, List.getElem_cons_succ]
      refine wpAnyH_take (i := 3) (v := ?_) rfl (by kernel_rfl) (by kernel_rfl) (by kernel_rfl) (fun _ _ _ h => h) (Or.inl ⟨by rfl, ?_⟩) (by assumption) ?_
      rotate_left
      · (intro wx hSw; (try dsimp only at hSw); go_simp <;> with_reducible rfl)
      try simp only [Act.put, List.setIfInBounds_toArray, List.set_cons_zero, List.set_cons_succ, List.getElem_toArray, List.getElem_cons_zero, List.getElem_cons_succ]
      refine wpAnyH_ready (rs := [2]) (by kernel_rfl) (by simp) ?_
      refine AllReadyH.cons rfl (fun K hK => ?_) AllReadyH.nil
      go_simp
      go_at_call 30
      with_reducible refine (HAf.out (a : Int) _ ((HB1.out).drew)).mono ?_
      rintro r zb1 ⟨u2, rfl, hr, hb⟩
      have HBb1 : Hid (Below y0.heap.size y0 zb1) := ((HB1.out).drew).trans (hb.mono ((HB1.out).drew).size)
      have HC1 : Hid (Below c1.heap.size c1 zb1) := (Below.refl c1.heap.size c1).drew.trans hb
      have HS := Lib.hid (same_i hr (Hrow.out.later HC1.out) (HLa.out (a : Int)))
      clear hr
      go_wp2_with fail
      refine hK.out _ _ (⟨cellL hHb0.1 hb, cellL hHb0.2 hb⟩) (fun hHb1 => ?_)
      clear hK K hHb0
      try simp only [Act.put, List.setIfInBounds_toArray, List.set_cons_zero, List.set_cons_succ, List.getElem_toArray, List.getElem_cons_zero, List.getElem_cons_succ]
      clear hb
      refine wpAnyH_ready (rs := [4]) (by kernel_rfl) (by simp) ?_
      refine AllReadyH.cons rfl (fun K hK => ?_) AllReadyH.nil
      go_simp
      go_at_call 15
      with_reducible refine (HS.out).mono ?_
      rintro r zb2 ⟨rfl, hb⟩
      have HBb2 : Hid (Below y0.heap.size y0 zb2) := (HBb1.out).trans (hb.mono (HBb1.out).size)
      have HC2 : Hid (Below c1.heap.size c1 zb2) := HC1.out.trans (hb.mono HC1.out.size)
      clear HS
      go_wp2_with fail
      refine hK.out _ _ (⟨cellL hHb1.1 hb, cellL hHb1.2 hb⟩) (fun hHb2 => ?_)
      clear hK K hHb1
      try simp only [Act.put, List.setIfInBounds_toArray, List.set_cons_zero, List.set_cons_succ, List.getElem_toArray, List.getElem_cons_zero, List.getElem_cons_succ]
      clear hb
      refine wpAnyH_take (i := 5) (v := ?_) rfl (by kernel_rfl) (by kernel_rfl) (by kernel_rfl) (fun _ _ _ h => h) (Or.inl ⟨by rfl, ?_⟩) (by assumption) ?_
      rotate_left
      · (intro wx hSw; (try dsimp only at hSw); go_simp <;> with_reducible rfl)
      try simp only [Act.put, List.setIfInBounds_toArray, List.set_cons_zero, List.set_cons_succ, List.getElem_toArray, List.getElem_cons_zero, List.getElem_cons_succ]
      refine wpAnyH_take (i := 6) (v := ?_) rfl (by kernel_rfl) (by kernel_rfl) (by kernel_rfl) (fun _ _ _ h => h) (Or.inl ⟨by rfl, ?_⟩) (by assumption) ?_
      rotate_left
      · (intro wx hSw; (try dsimp only at hSw); go_simp <;> with_reducible rfl)
      try simp only [Act.put, List.setIfInBounds_toArray, List.set_cons_zero, List.set_cons_succ, List.getElem_toArray, List.getElem_cons_zero, List.getElem_cons_succ]
      refine wpAnyH_take (i := 7) (v := ?_) rfl (by kernel_rfl) (by kernel_rfl) (by kernel_rfl) (fun _ _ _ h => h) (Or.inl ⟨by rfl, ?_⟩) (by assumption) ?_
      rotate_left
      · (intro wx hSw; (try dsimp only at hSw); go_simp <;> with_reducible rfl)
      try simp only [Act.put, List.setIfInBounds_toArray, List.set_cons_zero, List.set_cons_succ, List.getElem_toArray, List.getElem_cons_zero, List.getElem_cons_succ]
      refine wpAnyH_take (i := 8) (v := ?_) rfl (by kernel_rfl) (by kernel_rfl) (by kernel_rfl) (fun _ _ _ h => h) (Or.inl ⟨by rfl, ?_⟩) (by assumption) ?_
      rotate_left
      · (intro wx hSw; (try dsimp only at hSw); go_simp <;> with_reducible rfl)
      try simp only [Act.put, List.setIfInBounds_toArray, List.set_cons_zero, List.set_cons_succ, List.getElem_toArray, List.getElem_cons_zero, List.getElem_cons_succ]
      refine wpAnyH_take (i := 10) (v := ?_) rfl (by kernel_rfl) (by kernel_rfl) (by kernel_rfl) (fun _ _ _ h => h) (Or.inl ⟨by rfl, ?_⟩) (by assumption) ?_
      rotate_left
      · (intro wx hSw; (try dsimp only at hSw); go_simp <;> with_reducible rfl)
      try simp only [Act.put, List.setIfInBounds_toArray, List.set_cons_zero, List.set_cons_succ, List.getElem_toArray, List.getElem_cons_zero, List.getElem_cons_succ]
      refine wpAnyH_take (i := 11) (v := ?_) rfl (by kernel_rfl) (by kernel_rfl) (by kernel_rfl) (fun _ _ _ h => h) (Or.inl ⟨by rfl, ?_⟩) (by assumption) ?_
      rotate_left
      · (intro wx hSw; (try dsimp only at hSw); go_simp <;> with_reducible rfl)
      try simp only [Act.put, List.setIfInBounds_toArray, List.set_cons_zero, List.set_cons_succ, List.getElem_toArray, List.getElem_cons_zero, List.getElem_cons_succ]
      refine wpAnyH_ready (rs := [9]) (by kernel_rfl) (by simp) ?_
      refine AllReadyH.cons rfl (fun K hK => ?_) AllReadyH.nil
      go_simp
      go_at_call 32
      with_reducible refine (HBf.out (a : Int) zb2 (HBb2.out)).mono ?_
      rintro r zb3 ⟨u3, rfl, hr, hb⟩
      have HBb3 : Hid (Below y0.heap.size y0 zb3) := (HBb2.out).trans (hb.mono (HBb2.out).size)
      have HC3 : Hid (Below c1.heap.size c1 zb3) := HC2.out.trans (hb.mono HC2.out.size)
      have Hr1 := Lib.hid hr
      clear hr
      go_wp2_with fail
      refine hK.out _ _ (⟨cellL hHb2.1 hb, cellL hHb2.2 hb⟩) (fun hHb3 => ?_)
      clear hK K hHb2
      try simp only [Act.put, List.setIfInBounds_toArray, List.set_cons_zero, List.set_cons_succ, List.getElem_toArray, List.getElem_cons_zero, List.getElem_cons_succ]
      clear hb
      refine wpAnyH_ready (rs := [12]) (by kernel_rfl) (by simp) ?_
      refine AllReadyH.cons rfl (fun K hK => ?_) AllReadyH.nil
      go_simp
      go_at_call 33
      with_reducible refine (HrB.out (a : Int) zb3 (HBb3.out)).mono ?_
      rintro r zb4 ⟨u4, rfl, hr, hb⟩
      have HBb4 : Hid (Below y0.heap.size y0 zb4) := (HBb3.out).trans (hb.mono (HBb3.out).size)
      have HC4 : Hid (Below c1.heap.size c1 zb4) := HC3.out.trans (hb.mono HC3.out.size)
      have HS := Lib.hid (same_i (Hr1.out.later hb) hr (HLb.out (a : Int)))
      clear hr Hr1
      go_wp2_with fail
      refine hK.out _ _ (⟨cellL hHb3.1 hb, cellL hHb3.2 hb⟩) (fun hHb4 => ?_)
      clear hK K hHb3
      try simp only [Act.put, List.setIfInBounds_toArray, List.set_cons_zero, List.set_cons_succ, List.getElem_toArray, List.getElem_cons_zero, List.getElem_cons_succ]
      clear hb
      refine wpAnyH_ready (rs := [13]) (by kernel_rfl) (by simp) ?_
      refine AllReadyH.cons rfl (fun K hK => ?_) AllReadyH.nil
      go_simp
      go_at_call 15
      with_reducible refine (HS.out).mono ?_
      rintro r zb5 ⟨rfl, hb⟩
      have HBb5 : Hid (Below y0.heap.size y0 zb5) := (HBb4.out).trans (hb.mono (HBb4.out).size)
      have HC5 : Hid (Below c1.heap.size c1 zb5) := HC4.out.trans (hb.mono HC4.out.size)
      have HROW := Lib.hid (Hrow.out.later HC5.out)
      clear HS
      go_wp2_with fail
      refine hK.out _ _ (⟨cellL hHb4.1 hb, cellL hHb4.2 hb⟩) (fun hHb5 => ?_)
      clear hK K hHb4
      try simp only [Act.put, List.setIfInBounds_toArray, List.set_cons_zero, List.set_cons_succ, List.getElem_toArray, List.getElem_cons_zero, List.getElem_cons_succ]
      clear hb
      refine wpAnyH_take (i := 14) (v := ?_) rfl (by kernel_rfl) (by kernel_rfl) (by kernel_rfl) (fun _ _ _ h => h) (Or.inl ⟨by rfl, ?_⟩) (by assumption) ?_
      rotate_left
      · (intro wx hSw; (try dsimp only at hSw); go_simp <;> with_reducible rfl)
      try simp only [Act.put, List.setIfInBounds_toArray, List.set_cons_zero, List.set_cons_succ, List.getElem_toArray, List.getElem_cons_zero, List.getElem_cons_succ]
      refine wpAnyH_take (i := 15) (v := ?_) rfl (by kernel_rfl) (by kernel_rfl) (by kernel_rfl) (fun _ _ _ h => h) (Or.inl ⟨by rfl, ?_⟩) (by assumption) ?_
      rotate_left
      · (intro wx hSw; (try dsimp only at hSw); go_simp <;> with_reducible rfl)
      try simp only [Act.put, List.setIfInBounds_toArray, List.set_cons_zero, List.set_cons_succ, List.getElem_toArray, List.getElem_cons_zero, List.getElem_cons_succ]
      refine wpAnyH_done (by kernel_rfl) ?_ _
      go_wp2
      go_loopg [11] n (fun gl bv wr => ∃ b : Nat, Hid (b + gl = n) ∧ bv = .int .i64 b ∧ Hid (Below y0.heap.size y0 wr ∧ RowK kInt wr (.slice al ml cl) (aftI (es.map ofEd) (a : Int))))
      case atStart => exact ⟨0, Nat.zero_add _, rfl, HBb5.out, HROW.out⟩
      case round =>
        clear HBb1 HBb2 HBb3 HBb4 HBb5 HROW
        obtain ⟨b, Hb, rfl, HBr⟩ := hrel
        have e0 := cellL (HT.out.cell (i := 0) rfl) HBr.out.1
        obtain ⟨wb, hwb⟩ : ∃ x, x = wr := ⟨_, rfl⟩
        subst hwb
        by_cases hltb : b < n
        · have hbi : (b : Int) < (n : Int) := by omega
          have hbs : b ≤ 30 := by have := Hn.out; omega
          have Hltb := Lib.hid hltb
          clear hltb
          go_wp2
          go_loopg [12, 13] ml (fun gj tv jv wr => ∃ i : Nat, Hid (i + gj = ml) ∧ tv = .bool (decide ((b : Int) ∈ (aftI (es.map ofEd) (a : Int)).take i)) ∧ jv = .int .i64 i ∧ wr = wb)
          case atStart => exact ⟨0, Nat.zero_add _, by simp, rfl, rfl⟩
          case round =>
            obtain ⟨i, Hi, rfl, rfl, rfl⟩ := hrel
            by_cases hlti : i < ml
            · obtain ⟨y, hy⟩ : ∃ y, (aftI (es.map ofEd) (a : Int))[i]? = some y := ⟨_, List.getElem?_eq_getElem (by have := Hml.out; omega)⟩
              obtain ⟨g, off, rfl, hca⟩ := HBr.out.2.at_ hy
              have d1 := hca 0 _ rfl
              simp only [kInt, Nat.mul_one, Nat.add_zero] at d1
              have hst : decide ((b : Int) ∈ (aftI (es.map ofEd) (a : Int)).take (i + 1)) = (decide ((b : Int) ∈ (aftI (es.map ofEd) (a : Int)).take i) || decide (y = (b : Int))) := by
                rw [List.take_add_one, hy, Bool.eq_iff_iff, Bool.or_eq_true, decide_eq_true_iff, decide_eq_true_iff, decide_eq_true_iff, List.mem_append]
                simp [eq_comm]
              have Hst := Lib.hid hst
              have hii : (i : Int) < (ml : Int) := by omega
              have his : i ≤ 1000000 := by have := HLa.out (a : Int); have := Hml.out; omega
              have Hlti := Lib.hid hlti
              obtain ⟨tb, htb⟩ : ∃ tb, decide ((b : Int) ∈ (aftI (es.map ofEd) (a : Int)).take i) = tb := ⟨_, rfl⟩
              rw [htb] at Hst ⊢
              clear hst htb hlti hca hy
              cases tb
              · by_cases hyb : y = (b : Int)
                · have hyd : decide (y = (b : Int)) = true := decide_eq_true hyb
                  rw [hyd] at Hst
                  subst hyb
                  clear hyd
                  go_wp2
                  go_roundg (ml - (i + 1))
                  case measure => have := Hi.out; have := Hlti.out; omega
                  case rel => exact ⟨i + 1, by have := Hi.out; have := Hlti.out; show _ = _; omega, by rw [Hst.out]; rfl, by go_num, rfl⟩
                · have hyd : decide (y = (b : Int)) = false := decide_eq_false hyb
                  rw [hyd] at Hst
                  clear hyd
                  go_wp2
                  go_roundg (ml - (i + 1))
                  case measure => have := Hi.out; have := Hlti.out; omega
                  case rel => exact ⟨i + 1, by have := Hi.out; have := Hlti.out; show _ = _; omega, by rw [Hst.out]; first | rfl | (simp [hyb]), by go_num, rfl⟩
              · go_wp2
                go_roundg (ml - (i + 1))
                case measure => have := Hi.out; have := Hlti.out; omega
                case rel => exact ⟨i + 1, by have := Hi.out; have := Hlti.out; show _ = _; omega, by rw [Hst.out]; rfl, by go_num, rfl⟩
            · have hii : ¬ (i : Int) < (ml : Int) := by omega
              rw [List.take_of_length_le (by have := Hml.out; omega), ← hasB_node Hlt.out]
              obtain ⟨tb, htb⟩ : ∃ tb, hasB n es (a : Int) (b : Int) = tb := ⟨_, rfl⟩
              rw [htb]
              have hbb : (tb != tb) = false := by cases tb <;> rfl
              have HH := Lib.hid (HHs.out (a : Int) (b : Int) _ HBr.out.1)
              rw [htb] at HH
              clear htb hlti
              go_wp2_with fail
              refine HH.out.mono ?_
              rintro r z9 ⟨rfl, hb9⟩
              have HB9 : Hid (Below y0.heap.size y0 z9 ∧ RowK kInt z9 (.slice al ml cl) (aftI (es.map ofEd) (a : Int))) := ⟨HBr.out.1.trans (hb9.mono HBr.out.1.size), HBr.out.2.later hb9⟩
              clear hb9 HH HBr
              go_wp2
              go_roundg (n - (b + 1))
              case measure => have := Hb.out; have := Hltb.out; omega
              case rel => exact ⟨b + 1, by have := Hb.out; have := Hltb.out; show _ = _; omega, by go_num, HB9⟩
        · have hbi : ¬ (b : Int) < (n : Int) := by omega
          have HB9 : Hid (Below y0.heap.size y0 wb) := HBr.out.1
          clear HBr hltb
          go_wp2
          go_roundg (n - (a + 1))
          case measure => have := Ha.out; have := Hlt.out; omega
          case rel => exact ⟨a + 1, by have := Ha.out; have := Hlt.out; show _ = _; omega, by go_num, HB9⟩
    · have hai : ¬ (a : Int) < (n : Int) := by omega
      have HG2 := Lib.hid (HGy.out.later HB.out)
      clear hlt
      go_wp2_with fail
      refine (gReverse_any HG2.out).mono ?_
      rintro r wc ⟨q, rfl, hg, hb⟩
      have HBc : Hid (Below y0.heap.size y0 wc) := HB.out.trans (hb.mono HB.out.size)
      have HGc := Lib.hid hg
      have HQ : Hid (∀ W, Below wc.heap.size wc W → GOk W q n (bef es) (aft es)) := fun W hW => HGc.out.later hW
      have e0 := cellL (HT.out.cell (i := 0) rfl) HBc.out
      have e1 := cellL (HT.out.cell (i := 1) rfl) HBc.out
      have Hed : Hid (edgesF (bef es) n = refNew (turn es)) := edges_bef Hnm.out Hin.out
      have HeL2 : Hid ((refNew (turn es)).length ≤ 120) := by have h1 := refNew_len (turn es); have h2 := Hn.out; show _ ≤ _; unfold turn at h1; rw [List.length_map] at h1; unfold turn; omega
      have HeL : Hid ((edgesF (bef es) n).length ≤ 100000) := by show _ ≤ _; rw [Hed.out]; have := HeL2.out; omega
      clear hg hb HG2 HB
      go_upto_region 23 with fail
      refine wp_region_held_drew (S := (fun W => W.cell? ⟨t, 0, none⟩ = some (.int .i64 (n : Int)) ∧ W.cell? ⟨t, 1, none⟩ = some (.slice ga gm gc))) (by kernel_rfl) (⟨e0, e1⟩) (fun hHd0 => ?_)
      refine wpAnyH_take (i := 0) (v := ?_) rfl (by kernel_rfl) (by kernel_rfl) (by kernel_rfl) (fun _ _ _ h => h) (Or.inl ⟨by rfl, ?_⟩) (by assumption) ?_
      rotate_left
      · (intro wx hSw; (try dsimp only at hSw); go_simp <;> with_reducible rfl)
      try simp only [Act.put, List.setIfInBounds_toArray, List.set_cons_zero, List.set_cons_succ, List.getElem_toArray, List.getElem_cons_zero, List.getElem_cons_succ]
      refine wpAnyH_take (i := 1) (v := ?_) rfl (by kernel_rfl) (by kernel_rfl) (by kernel_rfl) (fun _ _ _ h => h) (Or.inl ⟨by rfl, ?_⟩) (by assumption) ?_
      rotate_left
      · (intro wx hSw; (try dsimp only at hSw); go_simp <;> with_reducible rfl)
      try simp only [Act.put, List.setIfInBounds_toArray, List.set_cons_zero, List.set_cons_succ, List.getElem_toArray, List.getElem_cons_zero, List.getElem_cons_succ]
      refine wpAnyH_take (i := 2) (v := ?_) rfl (by kernel_rfl) (by kernel_rfl) (by kernel_rfl) (fun _ _ _ h => h) (Or.inl ⟨by rfl, ?_⟩) (by assumption) ?_
      rotate_left
      · (intro wx hSw; (try dsimp only at hSw); go_simp <;> with_reducible rfl)
      try simp only [Act.put, List.setIfInBounds_toArray, List.set_cons_zero, List.set_cons_succ, List.getElem_toArray, List.getElem_cons_zero, List.getElem_cons_succ]
      refine wpAnyH_take (i := 3) (v := ?_) rfl (by kernel_rfl) (by kernel_rfl) (by kernel_rfl) (fun _ _ _ h => h) (Or.inl ⟨by rfl, ?_⟩) (by assumption) ?_
      rotate_left
      · (intro wx hSw; (try dsimp only at hSw); go_simp <;> with_reducible rfl)
      try simp only [Act.put, List.setIfInBounds_toArray, List.set_cons_zero, List.set_cons_succ, List.getElem_toArray, List.getElem_cons_zero, List.getElem_cons_succ]
      refine wpAnyH_ready (rs := [4]) (by kernel_rfl) (by simp) ?_
      refine AllReadyH.cons rfl (fun K hK => ?_) AllReadyH.nil
      go_simp
      go_at_call 28
      with_reducible refine (HHs.out x (n : Int) _ (HBc.out.trans ((((Below.refl wc.heap.size wc)).drew).mono HBc.out.size))).mono ?_
      rintro r zd1 ⟨rfl, hb⟩
      have HBd1 : Hid (Below wc.heap.size wc zd1) := (((Below.refl wc.heap.size wc)).drew).trans (hb.mono (((Below.refl wc.heap.size wc)).drew).size)
      rw [hasB_out Hin.out]
      go_wp2_with fail
      refine hK.out _ _ (⟨cellL hHd0.1 hb, cellL hHd0.2 hb⟩) (fun hHd1 => ?_)
      clear hK K hHd0
      try simp only [Act.put, List.setIfInBounds_toArray, List.set_cons_zero, List.set_cons_succ, List.getElem_toArray, List.getElem_cons_zero, List.getElem_cons_succ]
      clear hb
      refine wpAnyH_take (i := 5) (v := ?_) rfl (by kernel_rfl) (by kernel_rfl) (by kernel_rfl) (fun _ _ _ h => h) (Or.inl ⟨by rfl, ?_⟩) (by assumption) ?_
      rotate_left
      · (intro wx hSw; (try dsimp only at hSw); go_simp <;> with_reducible rfl)
      try simp only [Act.put, List.setIfInBounds_toArray, List.set_cons_zero, List.set_cons_succ, List.getElem_toArray, List.getElem_cons_zero, List.getElem_cons_succ]
      refine wpAnyH_take (i := 6) (v := ?_) rfl (by kernel_rfl) (by kernel_rfl) (by kernel_rfl) (fun _ _ _ h => h) (Or.inl ⟨by rfl, ?_⟩) (by assumption) ?_
      rotate_left
      · (intro wx hSw; (try dsimp only at hSw); go_simp <;> with_reducible rfl)
      try simp only [Act.put, List.setIfInBounds_toArray, List.set_cons_zero, List.set_cons_succ, List.getElem_toArray, List.getElem_cons_zero, List.getElem_cons_succ]
      refine wpAnyH_take (i := 7) (v := ?_) rfl (by kernel_rfl) (by kernel_rfl) (by kernel_rfl) (fun _ _ _ h => h) (Or.inl ⟨by rfl, ?_⟩) (by assumption) ?_
      rotate_left
      · (intro wx hSw; (try dsimp only at hSw); go_simp <;> with_reducible rfl)
      try simp only [Act.put, List.setIfInBounds_toArray, List.set_cons_zero, List.set_cons_succ, List.getElem_toArray, List.getElem_cons_zero, List.getElem_cons_succ]
      refine wpAnyH_ready (rs := [8]) (by kernel_rfl) (by simp) ?_
      refine AllReadyH.cons rfl (fun K hK => ?_) AllReadyH.nil
      go_simp
      go_at_call 28
      with_reducible refine (HHs.out (-1) 0 zd1 (HBc.out.trans ((HBd1.out).mono HBc.out.size))).mono ?_
      rintro r zd2 ⟨rfl, hb⟩
      have HBd2 : Hid (Below wc.heap.size wc zd2) := (HBd1.out).trans (hb.mono (HBd1.out).size)
      rw [hasB_neg]
      go_wp2_with fail
      refine hK.out _ _ (⟨cellL hHd1.1 hb, cellL hHd1.2 hb⟩) (fun hHd2 => ?_)
      clear hK K hHd1
      try simp only [Act.put, List.setIfInBounds_toArray, List.set_cons_zero, List.set_cons_succ, List.getElem_toArray, List.getElem_cons_zero, List.getElem_cons_succ]
      clear hb
      refine wpAnyH_take (i := 9) (v := ?_) rfl (by kernel_rfl) (by kernel_rfl) (by kernel_rfl) (fun _ _ _ h => h) (Or.inl ⟨by rfl, ?_⟩) (by assumption) ?_
      rotate_left
      · (intro wx hSw; (try dsimp only at hSw); go_simp <;> with_reducible rfl)
      try simp only [Act.put, List.setIfInBounds_toArray, List.set_cons_zero, List.set_cons_succ, List.getElem_toArray, List.getElem_cons_zero, List.getElem_cons_succ]
      refine wpAnyH_take (i := 10) (v := ?_) rfl (by kernel_rfl) (by kernel_rfl) (by kernel_rfl) (fun _ _ _ h => h) (Or.inl ⟨by rfl, ?_⟩) (by assumption) ?_
      rotate_left
      · (intro wx hSw; (try dsimp only at hSw); go_simp <;> with_reducible rfl)
      try simp only [Act.put, List.setIfInBounds_toArray, List.set_cons_zero, List.set_cons_succ, List.getElem_toArray, List.getElem_cons_zero, List.getElem_cons_succ]
      refine wpAnyH_take (i := 11) (v := ?_) rfl (by kernel_rfl) (by kernel_rfl) (by kernel_rfl) (fun _ _ _ h => h) (Or.inl ⟨by rfl, ?_⟩) (by assumption) ?_
      rotate_left
      · (intro wx hSw; (try dsimp only at hSw); go_simp <;> with_reducible rfl)
      try simp only [Act.put, List.setIfInBounds_toArray, List.set_cons_zero, List.set_cons_succ, List.getElem_toArray, List.getElem_cons_zero, List.getElem_cons_succ]
      refine wpAnyH_take (i := 12) (v := ?_) rfl (by kernel_rfl) (by kernel_rfl) (by kernel_rfl) (fun _ _ _ h => h) (Or.inl ⟨by rfl, ?_⟩) (by assumption) ?_
      rotate_left
      · (intro wx hSw; (try dsimp only at hSw); go_simp <;> with_reducible rfl)
      try simp only [Act.put, List.setIfInBounds_toArray, List.set_cons_zero, List.set_cons_succ, List.getElem_toArray, List.getElem_cons_zero, List.getElem_cons_succ]
      refine wpAnyH_take (i := 13) (v := ?_) rfl (by kernel_rfl) (by kernel_rfl) (by kernel_rfl) (fun _ _ _ h => h) (Or.inl ⟨by rfl, ?_⟩) (by assumption) ?_
      rotate_left
      · (intro wx hSw; (try dsimp only at hSw); go_simp <;> with_reducible rfl)
      try simp only [Act.put, List.setIfInBounds_toArray, List.set_cons_zero, List.set_cons_succ, List.getElem_toArray, List.getElem_cons_zero, List.getElem_cons_succ]
      refine wpAnyH_take (i := 14) (v := ?_) rfl (by kernel_rfl) (by kernel_rfl) (by kernel_rfl) (fun _ _ _ h => h) (Or.inl ⟨by rfl, ?_⟩) (by assumption) ?_
      rotate_left
      · (intro wx hSw; (try dsimp only at hSw); go_simp <;> with_reducible rfl)
      try simp only [Act.put, List.setIfInBounds_toArray, List.set_cons_zero, List.set_cons_succ, List.getElem_toArray, List.getElem_cons_zero, List.getElem_cons_succ]
      refine wpAnyH_take (i := 15) (v := ?_) rfl (by kernel_rfl) (by kernel_rfl) (by kernel_rfl) (fun _ _ _ h => h) (Or.inl ⟨by rfl, ?_⟩) (by assumption) ?_
      rotate_left
      · (intro wx hSw; (try dsimp only at hSw); go_simp <;> with_reducible rfl)
      try simp only [Act.put, List.setIfInBounds_toArray, List.set_cons_zero, List.set_cons_succ, List.getElem_toArray, List.getElem_cons_zero, List.getElem_cons_succ]
      refine wpAnyH_take (i := 16) (v := ?_) rfl (by kernel_rfl) (by kernel_rfl) (by kernel_rfl) (fun _ _ _ h => h) (Or.inl ⟨by rfl, ?_⟩) (by assumption) ?_
      rotate_left
      · (intro wx hSw; (try dsimp only at hSw); go_simp <;> with_reducible rfl)
      try simp only [Act.put, List.setIfInBounds_toArray, List.set_cons_zero, List.set_cons_succ, List.getElem_toArray, List.getElem_cons_zero, List.getElem_cons_succ]
      refine wpAnyH_take (i := 18) (v := ?_) rfl (by kernel_rfl) (by kernel_rfl) (by kernel_rfl) (fun _ _ _ h => h) (Or.inl ⟨by rfl, ?_⟩) (by assumption) ?_
      rotate_left
      · (intro wx hSw; (try dsimp only at hSw); go_simp <;> with_reducible rfl)
      try simp only [Act.put, List.setIfInBounds_toArray, List.set_cons_zero, List.set_cons_succ, List.getElem_toArray, List.getElem_cons_zero, List.getElem_cons_succ]
      refine wpAnyH_take (i := 19) (v := ?_) rfl (by kernel_rfl) (by kernel_rfl) (by kernel_rfl) (fun _ _ _ h => h) (Or.inl ⟨by rfl, ?_⟩) (by assumption) ?_
      rotate_left
      · (intro wx hSw; (try dsimp only at hSw); go_simp <;> with_reducible rfl)
      try simp only [Act.put, List.setIfInBounds_toArray, List.set_cons_zero, List.set_cons_succ, List.getElem_toArray, List.getElem_cons_zero, List.getElem_cons_succ]
      refine wpAnyH_ready (rs := [17]) (by kernel_rfl) (by simp) ?_
      refine AllReadyH.cons rfl (fun K hK => ?_) AllReadyH.nil
      go_simp
      go_at_call 23
      with_reducible refine (nodes_r (HQ.out zd2 (HBd2.out)).at_).mono ?_
      rintro r zd3 ⟨rfl, hb⟩
      have HBd3 : Hid (Below wc.heap.size wc zd3) := (HBd2.out).trans (hb.mono (HBd2.out).size)
      go_wp2_with fail
      refine hK.out _ _ (⟨cellL hHd2.1 hb, cellL hHd2.2 hb⟩) (fun hHd3 => ?_)
      clear hK K hHd2
      try simp only [Act.put, List.setIfInBounds_toArray, List.set_cons_zero, List.set_cons_succ, List.getElem_toArray, List.getElem_cons_zero, List.getElem_cons_succ]
      clear hb
      refine wpAnyH_take (i := 20) (v := ?_) rfl (by kernel_rfl) (by kernel_rfl) (by kernel_rfl) (fun _ _ _ h => h) (Or.inl ⟨by rfl, ?_⟩) (by assumption) ?_
      rotate_left
      · (intro wx hSw; (try dsimp only at hSw); go_simp <;> with_reducible rfl)
      try simp only [Act.put, List.setIfInBounds_toArray, List.set_cons_zero, List.set_cons_succ, List.getElem_toArray, List.getElem_cons_zero, List.getElem_cons_succ]
      refine wpAnyH_take (i := 21) (v := ?_) rfl (by kernel_rfl) (by kernel_rfl) (by kernel_rfl) (fun _ _ _ h => h) (Or.inl ⟨by rfl, ?_⟩) (by assumption) ?_
      rotate_left
      · (intro wx hSw; (try dsimp only at hSw); go_simp <;> with_reducible rfl)
      try simp only [Act.put, List.setIfInBounds_toArray, List.set_cons_zero, List.set_cons_succ, List.getElem_toArray, List.getElem_cons_zero, List.getElem_cons_succ]
      refine wpAnyH_take (i := 22) (v := ?_) rfl (by kernel_rfl) (by kernel_rfl) (by kernel_rfl) (fun _ _ _ h => h) (Or.inl ⟨by rfl, ?_⟩) (by assumption) ?_
      rotate_left
      · (intro wx hSw; (try dsimp only at hSw); go_simp <;> with_reducible rfl)
      try simp only [Act.put, List.setIfInBounds_toArray, List.set_cons_zero, List.set_cons_succ, List.getElem_toArray, List.getElem_cons_zero, List.getElem_cons_succ]
      refine wpAnyH_take (i := 23) (v := ?_) rfl (by kernel_rfl) (by kernel_rfl) (by kernel_rfl) (fun _ _ _ h => h) (Or.inl ⟨by rfl, ?_⟩) (by assumption) ?_
      rotate_left
      · (intro wx hSw; (try dsimp only at hSw); go_simp <;> with_reducible rfl)
      try simp only [Act.put, List.setIfInBounds_toArray, List.set_cons_zero, List.set_cons_succ, List.getElem_toArray, List.getElem_cons_zero, List.getElem_cons_succ]
      refine wpAnyH_take (i := 25) (v := ?_) rfl (by kernel_rfl) (by kernel_rfl) (by kernel_rfl) (fun _ _ _ h => h) (Or.inl ⟨by rfl, ?_⟩) (by assumption) ?_
      rotate_left
      · (intro wx hSw; (try dsimp only at hSw); go_simp <;> with_reducible rfl)
      try simp only [Act.put, List.setIfInBounds_toArray, List.set_cons_zero, List.set_cons_succ, List.getElem_toArray, List.getElem_cons_zero, List.getElem_cons_succ]
      refine wpAnyH_ready (rs := [24]) (by kernel_rfl) (by simp) ?_
      refine AllReadyH.cons rfl (fun K hK => ?_) AllReadyH.nil
      go_simp
      go_at_call 25
      with_reducible refine (edges_any (HQ.out zd3 (HBd3.out)) HeL.out).mono ?_
      rintro r zd4 ⟨u1, rfl, ho, hb⟩
      have HBd4 : Hid (Below wc.heap.size wc zd4) := (HBd3.out).trans (hb.mono (HBd3.out).size)
      rw [Hed.out] at ho
      have Hr1 := Lib.hid ho
      clear ho
      go_wp2_with fail
      refine hK.out _ _ (⟨cellL hHd3.1 hb, cellL hHd3.2 hb⟩) (fun hHd4 => ?_)
      clear hK K hHd3
      try simp only [Act.put, List.setIfInBounds_toArray, List.set_cons_zero, List.set_cons_succ, List.getElem_toArray, List.getElem_cons_zero, List.getElem_cons_succ]
      clear hb
      refine wpAnyH_ready (rs := [26]) (by kernel_rfl) (by simp) ?_
      refine AllReadyH.cons rfl (fun K hK => ?_) AllReadyH.nil
      go_simp
      go_at_call 35
      with_reducible refine (HRv.out zd4 (HBc.out.trans ((HBd4.out).mono HBc.out.size))).mono ?_
      rintro r zd5 ⟨u2, rfl, ho, hb⟩
      have HBd5 : Hid (Below wc.heap.size wc zd5) := (HBd4.out).trans (hb.mono (HBd4.out).size)
      obtain ⟨ha2, hc2, he2, -⟩ := ho.row.form
      obtain ⟨hm2, hh2⟩ : ∃ m, ((refNew (turn es)).map ofEd).length = m := ⟨_, rfl⟩
      rw [hh2] at he2
      subst he2
      clear hh2
      have HS := Lib.hid (sameEdges_any (Hr1.out.row.later hb) ho.row (by rw [List.length_map]; have := HeL2.out; omega))
      clear ho Hr1
      go_wp2_with fail
      refine hK.out _ _ (⟨cellL hHd4.1 hb, cellL hHd4.2 hb⟩) (fun hHd5 => ?_)
      clear hK K hHd4
      try simp only [Act.put, List.setIfInBounds_toArray, List.set_cons_zero, List.set_cons_succ, List.getElem_toArray, List.getElem_cons_zero, List.getElem_cons_succ]
      clear hb
      refine wpAnyH_take (i := 27) (v := ?_) rfl (by kernel_rfl) (by kernel_rfl) (by kernel_rfl) (fun _ _ _ h => h) (Or.inl ⟨by rfl, ?_⟩) (by assumption) ?_
      rotate_left
      · (intro wx hSw; (try dsimp only at hSw); go_simp <;> with_reducible rfl)
      try simp only [Act.put, List.setIfInBounds_toArray, List.set_cons_zero, List.set_cons_succ, List.getElem_toArray, List.getElem_cons_zero, List.getElem_cons_succ]
      refine wpAnyH_ready (rs := [28]) (by kernel_rfl) (by simp) ?_
      refine AllReadyH.cons rfl (fun K hK => ?_) AllReadyH.nil
      go_simp
      go_at_call 24
      with_reducible refine (HS.out).mono ?_
      rintro r zd6 ⟨rfl, hb⟩
      have HBd6 : Hid (Below wc.heap.size wc zd6) := (HBd5.out).trans (hb.mono (HBd5.out).size)
      clear HS
      go_wp2_with fail
      refine hK.out _ _ (⟨cellL hHd5.1 hb, cellL hHd5.2 hb⟩) (fun hHd6 => ?_)
      clear hK K hHd5
      try simp only [Act.put, List.setIfInBounds_toArray, List.set_cons_zero, List.set_cons_succ, List.getElem_toArray, List.getElem_cons_zero, List.getElem_cons_succ]
      clear hb
      refine wpAnyH_take (i := 29) (v := ?_) rfl (by kernel_rfl) (by kernel_rfl) (by kernel_rfl) (fun _ _ _ h => h) (Or.inl ⟨by rfl, ?_⟩) (by assumption) ?_
      rotate_left
      · (intro wx hSw; (try dsimp only at hSw); go_simp <;> with_reducible rfl)
      try simp only [Act.put, List.setIfInBounds_toArray, List.set_cons_zero, List.set_cons_succ, List.getElem_toArray, List.getElem_cons_zero, List.getElem_cons_succ]
      refine wpAnyH_take (i := 30) (v := ?_) rfl (by kernel_rfl) (by kernel_rfl) (by kernel_rfl) (fun _ _ _ h => h) (Or.inl ⟨by rfl, ?_⟩) (by assumption) ?_
      rotate_left
      · (intro wx hSw; (try dsimp only at hSw); go_simp <;> with_reducible rfl)
      try simp only [Act.put, List.setIfInBounds_toArray, List.set_cons_zero, List.set_cons_succ, List.getElem_toArray, List.getElem_cons_zero, List.getElem_cons_succ]
      refine wpAnyH_take (i := 31) (v := ?_) rfl (by kernel_rfl) (by kernel_rfl) (by kernel_rfl) (fun _ _ _ h => h) (Or.inl ⟨by rfl, ?_⟩) (by assumption) ?_
      rotate_left
      · (intro wx hSw; (try dsimp only at hSw); go_simp <;> with_reducible rfl)
      try simp only [Act.put, List.setIfInBounds_toArray, List.set_cons_zero, List.set_cons_succ, List.getElem_toArray, List.getElem_cons_zero, List.getElem_cons_succ]
      refine wpAnyH_take (i := 33) (v := ?_) rfl (by kernel_rfl) (by kernel_rfl) (by kernel_rfl) (fun _ _ _ h => h) (Or.inl ⟨by rfl, ?_⟩) (by assumption) ?_
      rotate_left
      · (intro wx hSw; (try dsimp only at hSw); go_simp <;> with_reducible rfl)
      try simp only [Act.put, List.setIfInBounds_toArray, List.set_cons_zero, List.set_cons_succ, List.getElem_toArray, List.getElem_cons_zero, List.getElem_cons_succ]
      refine wpAnyH_ready (rs := [32]) (by kernel_rfl) (by simp) ?_
      refine AllReadyH.cons rfl (fun K hK => ?_) AllReadyH.nil
      go_simp
      go_at_call 34
      with_reducible refine (gReverse_any (HQ.out zd6 (HBd6.out))).mono ?_
      rintro r zd7 ⟨q2, rfl, hg, hb⟩
      have HBd7 : Hid (Below wc.heap.size wc zd7) := (HBd6.out).trans (hb.mono (HBd6.out).size)
      have HE := Lib.hid (gEqual_any hg (HGy.out.later (HBc.out.trans ((HBd7.out).mono HBc.out.size))))
      clear hg
      go_wp2_with fail
      refine hK.out _ _ (⟨cellL hHd6.1 hb, cellL hHd6.2 hb⟩) (fun hHd7 => ?_)
      clear hK K hHd6
      try simp only [Act.put, List.setIfInBounds_toArray, List.set_cons_zero, List.set_cons_succ, List.getElem_toArray, List.getElem_cons_zero, List.getElem_cons_succ]
      clear hb
      refine wpAnyH_ready (rs := [34]) (by kernel_rfl) (by simp) ?_
      refine AllReadyH.cons rfl (fun K hK => ?_) AllReadyH.nil
      go_simp
      go_at_call 36
      with_reducible refine (HE.out).mono ?_
      rintro r zd8 ⟨bq, rfl, hq, hb⟩
      have HBd8 : Hid (Below wc.heap.size wc zd8) := (HBd7.out).trans (hb.mono (HBd7.out).size)
      obtain rfl : bq = true := hq.2 (by first | exact True.intro | exact fun _ _ => True.intro | exact fun _ _ => rfl)
      clear HE hq
      go_wp2_with fail
      refine hK.out _ _ (⟨cellL hHd7.1 hb, cellL hHd7.2 hb⟩) (fun hHd8 => ?_)
      clear hK K hHd7
      try simp only [Act.put, List.setIfInBounds_toArray, List.set_cons_zero, List.set_cons_succ, List.getElem_toArray, List.getElem_cons_zero, List.getElem_cons_succ]
      clear hb
      refine wpAnyH_take (i := 35) (v := ?_) rfl (by kernel_rfl) (by kernel_rfl) (by kernel_rfl) (fun _ _ _ h => h) (Or.inl ⟨by rfl, ?_⟩) (by assumption) ?_
      rotate_left
      · (intro wx hSw; (try dsimp only at hSw); go_simp <;> with_reducible rfl)
      try simp only [Act.put, List.setIfInBounds_toArray, List.set_cons_zero, List.set_cons_succ, List.getElem_toArray, List.getElem_cons_zero, List.getElem_cons_succ]
      refine wpAnyH_take (i := 36) (v := ?_) rfl (by kernel_rfl) (by kernel_rfl) (by kernel_rfl) (fun _ _ _ h => h) (Or.inl ⟨by rfl, ?_⟩) (by assumption) ?_
      rotate_left
      · (intro wx hSw; (try dsimp only at hSw); go_simp <;> with_reducible rfl)
      try simp only [Act.put, List.setIfInBounds_toArray, List.set_cons_zero, List.set_cons_succ, List.getElem_toArray, List.getElem_cons_zero, List.getElem_cons_succ]
      refine wpAnyH_done (by kernel_rfl) ?_ _
      go_wp2
      go_ret
      exact ⟨rfl, HBy.out.trans ((HBc.out.trans (HBd8.out.mono HBc.out.size)).mono HBy.out.size)⟩
end Go.Proofs.Yteiddebjbiadbaa
