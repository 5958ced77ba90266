/- law 08: GraphReaches. (printed by wip/gen_gmlr.py) -/
import Derived.Test.YteiddebjbiadbaaGmLs
namespace Go.Proofs.Yteiddebjbiadbaa
open Go.RowKit Gr
attribute [local go_sem ↓] Go.wp_at_zero Go.wp_at_succ

set_option linter.unusedSimpArgs false in
set_option maxHeartbeats 1600000 in
theorem reaches_any {w : World} {m : Nat} {v v0 v1 : Value} {l : List (Int × Int)} {l0 l1 : List Int} (h : RowK kE w v l) (hl : l.length ≤ 9223372036854775807) (hm : m ≤ 255) (h0 : RowK kInt w v0 l0) (h1 : RowK kInt w v1 l1) (hl0 : l0.length ≤ 9223372036854775807) (hl1 : l1.length ≤ 9223372036854775807) :
    Calls Try.prog 4 #[.int .u8 (m : Int), v, .agg #[v0, v1]] w (TruePost w) := by
  obtain ⟨av, cv, rfl, -⟩ := h.form
  obtain ⟨a0, c0, rfl, -⟩ := h0.form
  obtain ⟨a1, c1, rfl, -⟩ := h1.form
  obtain ⟨x1, hx1⟩ : ∃ x1, w.alloc (.cells #[.slice a0 l0.length c0, .slice a1 l1.length c1] 36) = x1 := ⟨_, rfl⟩
  have HBx : Hid (Below w.heap.size w x1) := by rw [← hx1]; exact (Below.refl _ _).alloc (Nat.le_refl _) _
  have HRx : Hid (RowIs x1 w.heap.size 36 [.slice a0 l0.length c0, .slice a1 l1.length c1]) := by rw [← hx1]; exact new_row _ _ _
  have Hm := Lib.hid hm
  have Hl := Lib.hid hl
  have H := Lib.hid h
  have H0 := Lib.hid h0
  have H1 := Lib.hid h1
  clear h h0 h1
  go_enter Try.func4, Try.ntmps4
  go_upto_region 1 with fail
  clear hx1
  obtain ⟨s, hs⟩ : ∃ s, w.heap.size = s := ⟨_, rfl⟩
  rw [hs] at HRx ⊢
  clear hs
  go_wp2_with fail
  refine (known_any _).mono ?_
  rintro r x2 ⟨rfl, hb2⟩
  have HB2 : Hid (Below w.heap.size w x2) := HBx.out.trans (hb2.mono HBx.out.size)
  have HR2 := Lib.hid (HRx.out.later hb2)
  clear hb2
  have e0 := HR2.out.cell (i := 0) rfl
  have e1 := HR2.out.cell (i := 1) rfl
  by_cases hq0 : (20 : Int) < (l0.length : Int)
  · go_wp2_with fail
    refine (known_any _).mono ?_
    rintro r x3 ⟨rfl, hb3⟩
    have HB3 : Hid (Below w.heap.size w x3) := HB2.out.trans (hb3.mono HB2.out.size)
    clear hb3
    go_wp2
    go_ret
    exact ⟨rfl, HB3.out⟩
  by_cases hq1 : (20 : Int) < (l1.length : Int)
  · go_wp2_with fail
    refine (known_any _).mono ?_
    rintro r x3 ⟨rfl, hb3⟩
    have HB3 : Hid (Below w.heap.size w x3) := HB2.out.trans (hb3.mono HB2.out.size)
    clear hb3
    go_wp2
    go_ret
    exact ⟨rfl, HB3.out⟩
  have Hq : Hid (l0.length ≤ 20 ∧ l1.length ≤ 20) := ⟨by omega, by omega⟩
  have HK := Lib.hid (make_any (H.out.later HB2.out) Hl.out Hm.out)
  go_wp2_with fail
  refine HK.out.mono ?_
  rintro r x3 ⟨hb3, n, p, vg, es, rfl, hn1, hn30, hes, hnm, hin, hG, hO, hp⟩
  have HB3 : Hid (Below w.heap.size w x3) := HB2.out.trans (hb3.mono HB2.out.size)
  have HR3 := Lib.hid (HR2.out.later hb3)
  have Hn : Hid (1 ≤ n ∧ n ≤ 30 ∧ es.length ≤ 120) := ⟨hn1, hn30, hes⟩
  have Hin := Lib.hid hin
  have HG := Lib.hid hG
  obtain ⟨ga, gc, egv, -⟩ := hO.row.form
  obtain ⟨gm, hgm⟩ : ∃ m, (es.map ofEd).length = m := ⟨_, rfl⟩
  rw [hgm] at egv
  subst egv
  have HO := Lib.hid hO
  clear hgm hb3 hn1 hn30 hes hnm hin hG hO hp HK e0 e1
  go_upto_region 4 with fail
  obtain ⟨y0, hy0⟩ : ∃ y, x3.alloc (.cells #[.int .i64 (n : Int), .slice ga gm gc] 27) = y := ⟨_, rfl⟩
  have hb4 : Below x3.heap.size x3 y0 := by rw [← hy0]; exact (Below.refl _ _).alloc (Nat.le_refl _) _
  have HT : Hid (RowIs y0 x3.heap.size 27 [.int .i64 (n : Int), .slice ga gm gc]) := by rw [← hy0]; exact new_row _ _ _
  rw [hy0]
  have HBy : Hid (Below w.heap.size w y0) := HB3.out.trans (hb4.mono HB3.out.size)
  have e0 := (HR3.out.later hb4).cell (i := 0) rfl
  have e1 := (HR3.out.later hb4).cell (i := 1) rfl
  have HGy := Lib.hid (HG.out.later hb4)
  have HOy := Lib.hid (HO.out.later hb4)
  clear hy0 hb4
  obtain ⟨t, ht⟩ : ∃ t, x3.heap.size = t := ⟨_, rfl⟩
  rw [ht] at HT ⊢
  clear ht
  have e2 := HT.out.cell (i := 0) rfl
  have e3 := HT.out.cell (i := 1) rfl
  have H0y : Hid (RowK kInt y0 (.slice a0 l0.length c0) l0) := H0.out.later HBy.out
  have H1y : Hid (RowK kInt y0 (.slice a1 l1.length c1) l1) := H1.out.later HBy.out
  have HC1 : Hid (∀ W, Below y0.heap.size y0 W → Calls Try.prog 16 #[.pointer (some ⟨p, 0, none⟩), .slice a0 l0.length c0] W fun r w' => ∃ v, r = .returned v ∧ OwnK kNat W.heap.size w' v (seenL (reachedF (aft es) n (nodesF n l0)) n) ∧ Below W.heap.size W w') :=
    fun W hW => reach_any (HGy.out.later hW) (H0y.out.later hW) (by have := Hq.out; omega)
  have HC2 : Hid (∀ W, Below y0.heap.size y0 W → Calls Try.prog 17 #[.agg #[.int .i64 (n : Int), .slice ga gm gc], .slice a0 l0.length c0] W fun r w' => ∃ v', r = .returned v' ∧ OwnK kNat W.heap.size w' v' (seenL (marksF es (n + 1) (startF n (nodesF n l0))) n) ∧ Below W.heap.size W w') :=
    fun W hW => rReach_any (HOy.out.row.later hW) (by have := Hn.out; omega) Hin.out (by have := Hn.out; omega) (H0y.out.later hW) (by have := Hq.out; omega)
  have HC3 : Hid (∀ W, Below y0.heap.size y0 W → Calls Try.prog 18 #[.pointer (some ⟨p, 0, none⟩), .slice a0 l0.length c0, .slice a1 l1.length c1] W fun r w' => ∃ v, r = .returned v ∧ OwnK kNat W.heap.size w' v (bothL (reachedF (aft es) n (nodesF n l0)) (reachedF (bef es) n (nodesF n l1)) n) ∧ Below W.heap.size W w') :=
    fun W hW => between_any (HGy.out.later hW) (H0y.out.later hW) (by have := Hq.out; omega) (H1y.out.later hW) (by have := Hq.out; omega)
  have HC4 : Hid (∀ W, Below y0.heap.size y0 W → Calls Try.prog 19 #[.agg #[.int .i64 (n : Int), .slice ga gm gc], .slice a0 l0.length c0, .slice a1 l1.length c1] W fun r w' => ∃ v', r = .returned v' ∧ OwnK kNat W.heap.size w' v' (bothL (marksF es (n + 1) (startF n (nodesF n l0))) (marksF (refNew (turn es)) (n + 1) (startF n (nodesF n l1))) n) ∧ Below W.heap.size W w') :=
    fun W hW => rBetween_any (HOy.out.row.later hW) (by have := Hn.out; omega) Hin.out (by have := Hn.out; omega) (H0y.out.later hW) (by have := Hq.out; omega) (H1y.out.later hW) (by have := Hq.out; omega)
  refine wp_region_held_drew (S := (fun W => (W.cell? ⟨s, 0, none⟩ = some (.slice a0 l0.length c0) ∧ W.cell? ⟨s, 1, none⟩ = some (.slice a1 l1.length c1)) ∧ W.cell? ⟨t, 0, none⟩ = some (.int .i64 (n : Int)) ∧ W.cell? ⟨t, 1, none⟩ = some (.slice ga gm gc))) (by kernel_rfl) (⟨⟨e0, e1⟩, e2, e3⟩) (fun hH0 => ?_)
  refine wpAnyH_take (i := 0) (v := ?_) rfl (by kernel_rfl) (by kernel_rfl) (by kernel_rfl) (fun _ _ _ h => h) (Or.inl ⟨by rfl, ?_⟩) (by assumption) ?_
  rotate_left
  · (intro wx hSw; (try dsimp only at hSw); go_simp <;> with_reducible rfl)
  try simp only [Act.put, List.setIfInBounds_toArray, List.set_cons_zero, List.set_cons_succ, List.getElem_toArray, List.getElem_cons_zero, List.getElem_cons_succ]
  refine wpAnyH_take (i := 1) (v := ?_) rfl (by kernel_rfl) (by kernel_rfl) (by kernel_rfl) (fun _ _ _ h => h) (Or.inl ⟨by rfl, ?_⟩) (by assumption) ?_
  rotate_left
  · (intro wx hSw; (try dsimp only at hSw); go_simp <;> with_reducible rfl)
  try simp only [Act.put, List.setIfInBounds_toArray, List.set_cons_zero, List.set_cons_succ, List.getElem_toArray, List.getElem_cons_zero, List.getElem_cons_succ]
  refine wpAnyH_take (i := 2) (v := ?_) rfl (by kernel_rfl) (by kernel_rfl) (by kernel_rfl) (fun _ _ _ h => h) (Or.inl ⟨by rfl, ?_⟩) (by assumption) ?_
  rotate_left
  · (intro wx hSw; (try dsimp only at hSw); go_simp <;> with_reducible rfl)
  try simp only [Act.put, List.setIfInBounds_toArray, List.set_cons_zero, List.set_cons_succ, List.getElem_toArray, List.getElem_cons_zero, List.getElem_cons_succ]
  refine wpAnyH_take (i := 3) (v := ?_) rfl (by kernel_rfl) (by kernel_rfl) (by kernel_rfl) (fun _ _ _ h => h) (Or.inl ⟨by rfl, ?_⟩) (by assumption) ?_
  rotate_left
  · (intro wx hSw; (try dsimp only at hSw); go_simp <;> with_reducible rfl)
  try simp only [Act.put, List.setIfInBounds_toArray, List.set_cons_zero, List.set_cons_succ, List.getElem_toArray, List.getElem_cons_zero, List.getElem_cons_succ]
  refine wpAnyH_take (i := 4) (v := ?_) rfl (by kernel_rfl) (by kernel_rfl) (by kernel_rfl) (fun _ _ _ h => h) (Or.inl ⟨by rfl, ?_⟩) (by assumption) ?_
  rotate_left
  · (intro wx hSw; (try dsimp only at hSw); go_simp <;> with_reducible rfl)
  try simp only [Act.put, List.setIfInBounds_toArray, List.set_cons_zero, List.set_cons_succ, List.getElem_toArray, List.getElem_cons_zero, List.getElem_cons_succ]
  refine wpAnyH_take (i := 5) (v := ?_) rfl (by kernel_rfl) (by kernel_rfl) (by kernel_rfl) (fun _ _ _ h => h) (Or.inl ⟨by rfl, ?_⟩) (by assumption) ?_
  rotate_left
  · (intro wx hSw; (try dsimp only at hSw); go_simp <;> with_reducible rfl)
  try simp only [Act.put, List.setIfInBounds_toArray, List.set_cons_zero, List.set_cons_succ, List.getElem_toArray, List.getElem_cons_zero, List.getElem_cons_succ]
  refine wpAnyH_take (i := 7) (v := ?_) rfl (by kernel_rfl) (by kernel_rfl) (by kernel_rfl) (fun _ _ _ h => h) (Or.inl ⟨by rfl, ?_⟩) (by assumption) ?_
  rotate_left
  · (intro wx hSw; (try dsimp only at hSw); go_simp <;> with_reducible rfl)
  try simp only [Act.put, List.setIfInBounds_toArray, List.set_cons_zero, List.set_cons_succ, List.getElem_toArray, List.getElem_cons_zero, List.getElem_cons_succ]
  refine wpAnyH_take (i := 8) (v := ?_) rfl (by kernel_rfl) (by kernel_rfl) (by kernel_rfl) (fun _ _ _ h => h) (Or.inl ⟨by rfl, ?_⟩) (by assumption) ?_
  rotate_left
  · (intro wx hSw; (try dsimp only at hSw); go_simp <;> with_reducible rfl)
  try simp only [Act.put, List.setIfInBounds_toArray, List.set_cons_zero, List.set_cons_succ, List.getElem_toArray, List.getElem_cons_zero, List.getElem_cons_succ]
  refine wpAnyH_take (i := 9) (v := ?_) rfl (by kernel_rfl) (by kernel_rfl) (by kernel_rfl) (fun _ _ _ h => h) (Or.inl ⟨by rfl, ?_⟩) (by assumption) ?_
  rotate_left
  · (intro wx hSw; (try dsimp only at hSw); go_simp <;> with_reducible rfl)
  try simp only [Act.put, List.setIfInBounds_toArray, List.set_cons_zero, List.set_cons_succ, List.getElem_toArray, List.getElem_cons_zero, List.getElem_cons_succ]
  refine wpAnyH_ready (rs := [6]) (by kernel_rfl) (by simp) ?_
  refine AllReadyH.cons rfl (fun K hK => ?_) AllReadyH.nil
  go_simp
  go_at_call 16
  with_reducible refine (HC1.out _ (Below.refl _ _).drew).mono ?_
  rintro r y1 ⟨u1, rfl, ho1, hb1⟩
  have HB1 : Hid (Below y0.heap.size y0 y1) := (Below.refl y0.heap.size y0).drew.trans hb1
  have HO1 := Lib.hid ho1
  clear ho1 HC1
  go_wp2_with fail
  refine hK.out _ _ (⟨⟨cellL hH0.1.1 hb1, cellL hH0.1.2 hb1⟩, cellL hH0.2.1 hb1, cellL hH0.2.2 hb1⟩) (fun hH1 => ?_)
  clear hK K hH0
  try simp only [Act.put, List.setIfInBounds_toArray, List.set_cons_zero, List.set_cons_succ, List.getElem_toArray, List.getElem_cons_zero, List.getElem_cons_succ]
  clear hb1
  refine wpAnyH_ready (rs := [10]) (by kernel_rfl) (by simp) ?_
  refine AllReadyH.cons rfl (fun K hK => ?_) AllReadyH.nil
  go_simp
  go_at_call 17
  with_reducible refine (HC2.out y1 HB1.out).mono ?_
  rintro r y2 ⟨u2, rfl, ho2, hb2⟩
  have HB2 : Hid (Below y0.heap.size y0 y2) := HB1.out.trans (hb2.mono HB1.out.size)
  rw [← seen_ref Hin.out] at ho2
  have HS := Lib.hid (same_eq (HO1.out.later hb2).row ho2.row (by have := seen_len (reachedF (aft es) n (nodesF n l0)) n; have := Hn.out; omega))
  clear ho2 HC2 HO1
  go_wp2_with fail
  refine hK.out _ _ (⟨⟨cellL hH1.1.1 hb2, cellL hH1.1.2 hb2⟩, cellL hH1.2.1 hb2, cellL hH1.2.2 hb2⟩) (fun hH2 => ?_)
  clear hK K hH1
  try simp only [Act.put, List.setIfInBounds_toArray, List.set_cons_zero, List.set_cons_succ, List.getElem_toArray, List.getElem_cons_zero, List.getElem_cons_succ]
  clear hb2
  refine wpAnyH_ready (rs := [11]) (by kernel_rfl) (by simp) ?_
  refine AllReadyH.cons rfl (fun K hK => ?_) AllReadyH.nil
  go_simp
  go_at_call 15
  with_reducible refine HS.out.mono ?_
  rintro r y3 ⟨rfl, hb3⟩
  have HB3 : Hid (Below y0.heap.size y0 y3) := HB2.out.trans (hb3.mono HB2.out.size)
  clear HS
  go_wp2_with fail
  refine hK.out _ _ (⟨⟨cellL hH2.1.1 hb3, cellL hH2.1.2 hb3⟩, cellL hH2.2.1 hb3, cellL hH2.2.2 hb3⟩) (fun hH3 => ?_)
  clear hK K hH2
  try simp only [Act.put, List.setIfInBounds_toArray, List.set_cons_zero, List.set_cons_succ, List.getElem_toArray, List.getElem_cons_zero, List.getElem_cons_succ]
  clear hb3
  refine wpAnyH_take (i := 12) (v := ?_) rfl (by kernel_rfl) (by kernel_rfl) (by kernel_rfl) (fun _ _ _ h => h) (Or.inl ⟨by rfl, ?_⟩) (by assumption) ?_
  rotate_left
  · (intro wx hSw; (try dsimp only at hSw); go_simp <;> with_reducible rfl)
  try simp only [Act.put, List.setIfInBounds_toArray, List.set_cons_zero, List.set_cons_succ, List.getElem_toArray, List.getElem_cons_zero, List.getElem_cons_succ]
  refine wpAnyH_take (i := 13) (v := ?_) rfl (by kernel_rfl) (by kernel_rfl) (by kernel_rfl) (fun _ _ _ h => h) (Or.inl ⟨by rfl, ?_⟩) (by assumption) ?_
  rotate_left
  · (intro wx hSw; (try dsimp only at hSw); go_simp <;> with_reducible rfl)
  try simp only [Act.put, List.setIfInBounds_toArray, List.set_cons_zero, List.set_cons_succ, List.getElem_toArray, List.getElem_cons_zero, List.getElem_cons_succ]
  refine wpAnyH_take (i := 14) (v := ?_) rfl (by kernel_rfl) (by kernel_rfl) (by kernel_rfl) (fun _ _ _ h => h) (Or.inl ⟨by rfl, ?_⟩) (by assumption) ?_
  rotate_left
  · (intro wx hSw; (try dsimp only at hSw); go_simp <;> with_reducible rfl)
  try simp only [Act.put, List.setIfInBounds_toArray, List.set_cons_zero, List.set_cons_succ, List.getElem_toArray, List.getElem_cons_zero, List.getElem_cons_succ]
  refine wpAnyH_take (i := 15) (v := ?_) rfl (by kernel_rfl) (by kernel_rfl) (by kernel_rfl) (fun _ _ _ h => h) (Or.inl ⟨by rfl, ?_⟩) (by assumption) ?_
  rotate_left
  · (intro wx hSw; (try dsimp only at hSw); go_simp <;> with_reducible rfl)
  try simp only [Act.put, List.setIfInBounds_toArray, List.set_cons_zero, List.set_cons_succ, List.getElem_toArray, List.getElem_cons_zero, List.getElem_cons_succ]
  refine wpAnyH_take (i := 16) (v := ?_) rfl (by kernel_rfl) (by kernel_rfl) (by kernel_rfl) (fun _ _ _ h => h) (Or.inl ⟨by rfl, ?_⟩) (by assumption) ?_
  rotate_left
  · (intro wx hSw; (try dsimp only at hSw); go_simp <;> with_reducible rfl)
  try simp only [Act.put, List.setIfInBounds_toArray, List.set_cons_zero, List.set_cons_succ, List.getElem_toArray, List.getElem_cons_zero, List.getElem_cons_succ]
  refine wpAnyH_take (i := 17) (v := ?_) rfl (by kernel_rfl) (by kernel_rfl) (by kernel_rfl) (fun _ _ _ h => h) (Or.inl ⟨by rfl, ?_⟩) (by assumption) ?_
  rotate_left
  · (intro wx hSw; (try dsimp only at hSw); go_simp <;> with_reducible rfl)
  try simp only [Act.put, List.setIfInBounds_toArray, List.set_cons_zero, List.set_cons_succ, List.getElem_toArray, List.getElem_cons_zero, List.getElem_cons_succ]
  refine wpAnyH_take (i := 18) (v := ?_) rfl (by kernel_rfl) (by kernel_rfl) (by kernel_rfl) (fun _ _ _ h => h) (Or.inl ⟨by rfl, ?_⟩) (by assumption) ?_
  rotate_left
  · (intro wx hSw; (try dsimp only at hSw); go_simp <;> with_reducible rfl)
  try simp only [Act.put, List.setIfInBounds_toArray, List.set_cons_zero, List.set_cons_succ, List.getElem_toArray, List.getElem_cons_zero, List.getElem_cons_succ]
  refine wpAnyH_take (i := 20) (v := ?_) rfl (by kernel_rfl) (by kernel_rfl) (by kernel_rfl) (fun _ _ _ h => h) (Or.inl ⟨by rfl, ?_⟩) (by assumption) ?_
  rotate_left
  · (intro wx hSw; (try dsimp only at hSw); go_simp <;> with_reducible rfl)
  try simp only [Act.put, List.setIfInBounds_toArray, List.set_cons_zero, List.set_cons_succ, List.getElem_toArray, List.getElem_cons_zero, List.getElem_cons_succ]
  refine wpAnyH_take (i := 21) (v := ?_) rfl (by kernel_rfl) (by kernel_rfl) (by kernel_rfl) (fun _ _ _ h => h) (Or.inl ⟨by rfl, ?_⟩) (by assumption) ?_
  rotate_left
  · (intro wx hSw; (try dsimp only at hSw); go_simp <;> with_reducible rfl)
  try simp only [Act.put, List.setIfInBounds_toArray, List.set_cons_zero, List.set_cons_succ, List.getElem_toArray, List.getElem_cons_zero, List.getElem_cons_succ]
  refine wpAnyH_take (i := 22) (v := ?_) rfl (by kernel_rfl) (by kernel_rfl) (by kernel_rfl) (fun _ _ _ h => h) (Or.inl ⟨by rfl, ?_⟩) (by assumption) ?_
  rotate_left
  · (intro wx hSw; (try dsimp only at hSw); go_simp <;> with_reducible rfl)
  try simp only [Act.put, List.setIfInBounds_toArray, List.set_cons_zero, List.set_cons_succ, List.getElem_toArray, List.getElem_cons_zero, List.getElem_cons_succ]
  refine wpAnyH_take (i := 23) (v := ?_) rfl (by kernel_rfl) (by kernel_rfl) (by kernel_rfl) (fun _ _ _ h => h) (Or.inl ⟨by rfl, ?_⟩) (by assumption) ?_
  rotate_left
  · (intro wx hSw; (try dsimp only at hSw); go_simp <;> with_reducible rfl)
  try simp only [Act.put, List.setIfInBounds_toArray, List.set_cons_zero, List.set_cons_succ, List.getElem_toArray, List.getElem_cons_zero, List.getElem_cons_succ]
  refine wpAnyH_take (i := 24) (v := ?_) rfl (by kernel_rfl) (by kernel_rfl) (by kernel_rfl) (fun _ _ _ h => h) (Or.inl ⟨by rfl, ?_⟩) (by assumption) ?_
  rotate_left
  · (intro wx hSw; (try dsimp only at hSw); go_simp <;> with_reducible rfl)
  try simp only [Act.put, List.setIfInBounds_toArray, List.set_cons_zero, List.set_cons_succ, List.getElem_toArray, List.getElem_cons_zero, List.getElem_cons_succ]
  refine wpAnyH_ready (rs := [19]) (by kernel_rfl) (by simp) ?_
  refine AllReadyH.cons rfl (fun K hK => ?_) AllReadyH.nil
  go_simp
  go_at_call 18
  with_reducible refine (HC3.out y3 HB3.out).mono ?_
  rintro r y4 ⟨u4, rfl, ho4, hb4⟩
  have HB4 : Hid (Below y0.heap.size y0 y4) := HB3.out.trans (hb4.mono HB3.out.size)
  have HO4 := Lib.hid ho4
  clear ho4 HC3
  go_wp2_with fail
  refine hK.out _ _ (⟨⟨cellL hH3.1.1 hb4, cellL hH3.1.2 hb4⟩, cellL hH3.2.1 hb4, cellL hH3.2.2 hb4⟩) (fun hH4 => ?_)
  clear hK K hH3
  try simp only [Act.put, List.setIfInBounds_toArray, List.set_cons_zero, List.set_cons_succ, List.getElem_toArray, List.getElem_cons_zero, List.getElem_cons_succ]
  clear hb4
  refine wpAnyH_ready (rs := [25]) (by kernel_rfl) (by simp) ?_
  refine AllReadyH.cons rfl (fun K hK => ?_) AllReadyH.nil
  go_simp
  go_at_call 19
  with_reducible refine (HC4.out y4 HB4.out).mono ?_
  rintro r y5 ⟨u5, rfl, ho5, hb5⟩
  have HB5 : Hid (Below y0.heap.size y0 y5) := HB4.out.trans (hb5.mono HB4.out.size)
  rw [← both_ref Hin.out] at ho5
  have HS := Lib.hid (same_eq (HO4.out.later hb5).row ho5.row (by have := both_len (reachedF (aft es) n (nodesF n l0)) (reachedF (bef es) n (nodesF n l1)) n; have := Hn.out; omega))
  clear ho5 HC4 HO4
  go_wp2_with fail
  refine hK.out _ _ (⟨⟨cellL hH4.1.1 hb5, cellL hH4.1.2 hb5⟩, cellL hH4.2.1 hb5, cellL hH4.2.2 hb5⟩) (fun hH5 => ?_)
  clear hK K hH4
  try simp only [Act.put, List.setIfInBounds_toArray, List.set_cons_zero, List.set_cons_succ, List.getElem_toArray, List.getElem_cons_zero, List.getElem_cons_succ]
  clear hb5
  refine wpAnyH_ready (rs := [26]) (by kernel_rfl) (by simp) ?_
  refine AllReadyH.cons rfl (fun K hK => ?_) AllReadyH.nil
  go_simp
  go_at_call 15
  with_reducible refine HS.out.mono ?_
  rintro r y6 ⟨rfl, hb6⟩
  have HB6 : Hid (Below y0.heap.size y0 y6) := HB5.out.trans (hb6.mono HB5.out.size)
  clear HS
  go_wp2_with fail
  refine hK.out _ _ (⟨⟨cellL hH5.1.1 hb6, cellL hH5.1.2 hb6⟩, cellL hH5.2.1 hb6, cellL hH5.2.2 hb6⟩) (fun hH6 => ?_)
  clear hK K hH5
  try simp only [Act.put, List.setIfInBounds_toArray, List.set_cons_zero, List.set_cons_succ, List.getElem_toArray, List.getElem_cons_zero, List.getElem_cons_succ]
  clear hb6
  refine wpAnyH_take (i := 27) (v := ?_) rfl (by kernel_rfl) (by kernel_rfl) (by kernel_rfl) (fun _ _ _ h => h) (Or.inl ⟨by rfl, ?_⟩) (by assumption) ?_
  rotate_left
  · (intro wx hSw; (try dsimp only at hSw); go_simp <;> with_reducible rfl)
  try simp only [Act.put, List.setIfInBounds_toArray, List.set_cons_zero, List.set_cons_succ, List.getElem_toArray, List.getElem_cons_zero, List.getElem_cons_succ]
  refine wpAnyH_take (i := 28) (v := ?_) rfl (by kernel_rfl) (by kernel_rfl) (by kernel_rfl) (fun _ _ _ h => h) (Or.inl ⟨by rfl, ?_⟩) (by assumption) ?_
  rotate_left
  · (intro wx hSw; (try dsimp only at hSw); go_simp <;> with_reducible rfl)
  try simp only [Act.put, List.setIfInBounds_toArray, List.set_cons_zero, List.set_cons_succ, List.getElem_toArray, List.getElem_cons_zero, List.getElem_cons_succ]
  refine wpAnyH_done (by kernel_rfl) ?_ _
  go_wp2
  go_ret
  exact ⟨rfl, HBy.out.trans (HB6.out.mono HBy.out.size)⟩
end Go.Proofs.Yteiddebjbiadbaa
