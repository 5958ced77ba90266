/- law 08: To. (printed by wip/gen_gmt.py) -/
import Derived.Test.YteiddebjbiadbaaGmW
namespace Go.Proofs.Yteiddebjbiadbaa
open Go.RowKit Gr
attribute [local go_sem ↓] Go.wp_at_zero Go.wp_at_succ

theorem RowK.pair {w : World} {v : Value} {l : List (Int × Int)} (h : RowK kE w v l) {i : Nat} {x y : Int} (hx : l[i]? = some (x, y)) : ∃ g off c, v = .slice (some ⟨g, off, none⟩) l.length c ∧ w.cell? ⟨g, off + i * 2, none⟩ = some (.int .i64 x) ∧ w.cell? ⟨g, off + i * 2 + 1, none⟩ = some (.int .i64 y) := by
  rcases h with ⟨-, rfl⟩ | ⟨g, off, c, rfl, hc, h⟩
  · simp at hx
  · have h1 := h i _ hx 0 _ rfl
    have h2 := h i _ hx 1 _ rfl
    simp only [kE] at h1 h2
    refine ⟨g, off, c, rfl, ?_, ?_⟩
    · exact h1
    · exact h2
set_option linter.unusedSimpArgs false in
set_option maxHeartbeats 1600000 in
theorem to_any {w : World} {v : Value} {l : List (Int × Int)} (h : RowK kE w v l) (hl : l.length ≤ 100000) : Calls Try.prog 21 #[v] w fun r w' => ∃ v', r = .returned v' ∧ OwnK kEdge w.heap.size w' v' l ∧ Below w.heap.size w w' := by
  obtain ⟨av, cv, rfl, -⟩ := h.form
  have H := Lib.hid h
  clear h
  go_enter Try.func21, Try.ntmps21
  go_wp2
  go_loopg [3, 4] l.length (fun gk vt iv wr => ∃ i : Nat, Hid (i + gk = l.length) ∧ iv = .int .i64 i ∧ Hid (OwnK kEdge w.heap.size wr vt (l.take i)) ∧ Hid (Below w.heap.size w wr))
  case atStart => exact ⟨0, Nat.zero_add _, rfl, OwnK.nil _ _, Below.refl _ _⟩
  case round =>
    obtain ⟨i, Hi, rfl, HO, HB⟩ := hrel
    by_cases hlt : i < l.length
    · obtain ⟨⟨x, y⟩, hx⟩ : ∃ e, l[i]? = some e := ⟨_, List.getElem?_eq_getElem hlt⟩
      obtain ⟨g, off, c, hv, p1, p2⟩ := H.out.pair hx
      obtain ⟨rfl, rfl⟩ : av = some ⟨g, off, none⟩ ∧ cv = c := by simpa using hv
      have Hca : Hid (w.cell? ⟨g, off + i * 2, none⟩ = some (.int .i64 x) ∧ w.cell? ⟨g, off + i * 2 + 1, none⟩ = some (.int .i64 y)) := ⟨p1, p2⟩
      have d1 := cellL p1 HB.out
      have d2 := cellL p2 HB.out
      have hii : (i : Int) < (l.length : Int) := by omega
      have hst : l.take (i + 1) = l.take i ++ [(x, y)] := by rw [List.take_add_one, hx]; rfl
      obtain ⟨ta, tc, rfl, -⟩ := HO.out.row.form
      have htl : (l.take i).length = i := by rw [List.length_take]; omega
      rw [htl] at HO ⊢
      have Hst := Lib.hid hst
      have Hlen : Hid ((l.take i).length + [(x, y)].length ≤ 1000000) := by show _ ≤ _; rw [htl, List.length_singleton]; omega
      have Hlt := Lib.hid hlt
      clear hst htl hlt hv p1 p2 hx
      go_upto_region 5 with fail
      refine wp_region_held_drew (S := (fun W => W.cell? ⟨g, off + i * 2, none⟩ = some (.int .i64 x) ∧ W.cell? ⟨g, off + i * 2 + 1, none⟩ = some (.int .i64 y))) (by kernel_rfl) (⟨d1, d2⟩) (fun hH0 => ?_)
      have N0 := Lib.hid (HO.out.later (Below.refl wr.heap.size wr).drew)
      have B0 : Hid (Below wr.heap.size wr wr.drew) := (Below.refl _ _).drew
      obtain ⟨y0, hy0⟩ : ∃ yw, wr.drew = yw := ⟨_, rfl⟩
      rw [hy0] at N0 B0 hH0 ⊢
      clear hy0
      refine wpAnyH_take (i := 0) (v := ?_) rfl (by kernel_rfl) (by kernel_rfl) (by kernel_rfl) (fun _ _ _ h => h) (Or.inl ⟨by rfl, ?_⟩) (by assumption) ?_
      rotate_left
      · (intro wx hSw; have q1 := hSw.1; have q2 := hSw.2; clear hSw; go_simp <;> with_reducible rfl)
      try simp only [Act.put, List.setIfInBounds_toArray, List.set_cons_zero, List.set_cons_succ, List.getElem_toArray, List.getElem_cons_zero, List.getElem_cons_succ]
      refine wpAnyH_take (i := 1) (v := ?_) rfl (by kernel_rfl) (by kernel_rfl) (by kernel_rfl) (fun _ _ _ h => h) (Or.inl ⟨by rfl, ?_⟩) (by assumption) ?_
      rotate_left
      · (intro wx hSw; have q1 := hSw.1; have q2 := hSw.2; clear hSw; go_simp <;> with_reducible rfl)
      try simp only [Act.put, List.setIfInBounds_toArray, List.set_cons_zero, List.set_cons_succ, List.getElem_toArray, List.getElem_cons_zero, List.getElem_cons_succ]
      refine wpAnyH_take (i := 2) (v := ?_) rfl (by kernel_rfl) (by kernel_rfl) (by kernel_rfl) (fun _ _ _ h => h) (Or.inl ⟨by rfl, ?_⟩) (by assumption) ?_
      rotate_left
      · (intro wx hSw; have q1 := hSw.1; have q2 := hSw.2; clear hSw; go_simp <;> with_reducible rfl)
      try simp only [Act.put, List.setIfInBounds_toArray, List.set_cons_zero, List.set_cons_succ, List.getElem_toArray, List.getElem_cons_zero, List.getElem_cons_succ]
      refine wpAnyH_take (i := 6) (v := ?_) rfl (by kernel_rfl) (by kernel_rfl) (by kernel_rfl) (fun _ _ _ h => h) (Or.inl ⟨by rfl, ?_⟩) (by assumption) ?_
      rotate_left
      · (intro wx hSw; have q1 := hSw.1; have q2 := hSw.2; clear hSw; go_simp <;> with_reducible rfl)
      try simp only [Act.put, List.setIfInBounds_toArray, List.set_cons_zero, List.set_cons_succ, List.getElem_toArray, List.getElem_cons_zero, List.getElem_cons_succ]
      refine wpAnyH_take (i := 7) (v := ?_) rfl (by kernel_rfl) (by kernel_rfl) (by kernel_rfl) (fun _ _ _ h => h) (Or.inl ⟨by rfl, ?_⟩) (by assumption) ?_
      rotate_left
      · (intro wx hSw; have q1 := hSw.1; have q2 := hSw.2; clear hSw; go_simp <;> with_reducible rfl)
      try simp only [Act.put, List.setIfInBounds_toArray, List.set_cons_zero, List.set_cons_succ, List.getElem_toArray, List.getElem_cons_zero, List.getElem_cons_succ]
      refine wpAnyH_take (i := 3) (v := ?_) rfl (by kernel_rfl) (by kernel_rfl) (by kernel_rfl) (fun _ _ _ h => h) (Or.inl ⟨by rfl, ?_⟩) (by assumption) ?_
      rotate_left
      · (intro wx hSw; have q1 := hSw.1; have q2 := hSw.2; clear hSw; go_simp <;> with_reducible rfl)
      try simp only [Act.put, List.setIfInBounds_toArray, List.set_cons_zero, List.set_cons_succ, List.getElem_toArray, List.getElem_cons_zero, List.getElem_cons_succ]
      refine wpAnyH_take (i := 8) (v := ?_) rfl (by kernel_rfl) (by kernel_rfl) (by kernel_rfl) (fun _ _ _ h => h) (Or.inl ⟨by rfl, ?_⟩) (by assumption) ?_
      rotate_left
      · (intro wx hSw; have q1 := hSw.1; have q2 := hSw.2; clear hSw; go_simp <;> with_reducible rfl)
      try simp only [Act.put, List.setIfInBounds_toArray, List.set_cons_zero, List.set_cons_succ, List.getElem_toArray, List.getElem_cons_zero, List.getElem_cons_succ]
      refine wpAnyH_take (i := 4) (v := ?_) rfl (by kernel_rfl) (by kernel_rfl) (by kernel_rfl) (fun _ _ _ h => h) (Or.inl ⟨by rfl, ?_⟩) (by assumption) ?_
      rotate_left
      · (intro wx hSw; have q1 := hSw.1; have q2 := hSw.2; clear hSw; go_simp <;> with_reducible rfl)
      try simp only [Act.put, List.setIfInBounds_toArray, List.set_cons_zero, List.set_cons_succ, List.getElem_toArray, List.getElem_cons_zero, List.getElem_cons_succ]
      refine wpAnyH_take (i := 9) (v := ?_) rfl (by kernel_rfl) (by kernel_rfl) (by kernel_rfl) (fun _ _ _ h => h) (Or.inl ⟨by rfl, ?_⟩) (by assumption) ?_
      rotate_left
      · (intro wx hSw; have q1 := hSw.1; have q2 := hSw.2; clear hSw; go_simp <;> with_reducible rfl)
      try simp only [Act.put, List.setIfInBounds_toArray, List.set_cons_zero, List.set_cons_succ, List.getElem_toArray, List.getElem_cons_zero, List.getElem_cons_succ]
      refine wpAnyH_take (i := 5) (v := ?_) rfl (by kernel_rfl) (by kernel_rfl) (by kernel_rfl) (fun _ _ _ h => h) (Or.inl ⟨by rfl, ?_⟩) (by assumption) ?_
      rotate_left
      · (intro wx hSw; have q1 := hSw.1; have q2 := hSw.2; clear hSw; go_simp <;> with_reducible rfl)
      try simp only [Act.put, List.setIfInBounds_toArray, List.set_cons_zero, List.set_cons_succ, List.getElem_toArray, List.getElem_cons_zero, List.getElem_cons_succ]
      refine wpAnyH_take (i := 10) (v := ?_) rfl (by kernel_rfl) (by kernel_rfl) (by kernel_rfl) (fun _ _ _ h => h) (Or.inl ⟨by rfl, ?_⟩) (by assumption) ?_
      rotate_left
      · (intro wx hSw; have q1 := hSw.1; have q2 := hSw.2; clear hSw; go_simp <;> with_reducible rfl)
      try simp only [Act.put, List.setIfInBounds_toArray, List.set_cons_zero, List.set_cons_succ, List.getElem_toArray, List.getElem_cons_zero, List.getElem_cons_succ]
      refine wpAnyH_take (i := 11) (v := ?_) rfl (by kernel_rfl) (by kernel_rfl) (by kernel_rfl) (fun _ _ _ h => h) (Or.inl ⟨by rfl, ?_⟩) (by assumption) ?_
      rotate_left
      · (intro wx hSw; have q1 := hSw.1; have q2 := hSw.2; clear hSw; go_simp <;> with_reducible rfl)
      try simp only [Act.put, List.setIfInBounds_toArray, List.set_cons_zero, List.set_cons_succ, List.getElem_toArray, List.getElem_cons_zero, List.getElem_cons_succ]
      refine wpAnyH_ready (rs := [12]) (by kernel_rfl) (by simp) ?_
      refine AllReadyH.cons rfl (fun K hK => ?_) AllReadyH.nil
      have hb : Below y0.heap.size y0 (y0.alloc (.cells #[.int .i64 x, .int .i64 y] 60)) := (Below.refl _ _).alloc (Nat.le_refl _) _
      have As : Hid (RowIs (y0.alloc (.cells #[.int .i64 x, .int .i64 y] 60)) y0.heap.size 60 [.int .i64 x, .int .i64 y]) := new_row y0 60 [.int .i64 x, .int .i64 y]
      have N1 := Lib.hid (N0.out.later hb)
      have B1 := Lib.hid (B0.out.trans (hb.mono B0.out.size))
      go_simp
      refine hK.out _ _ (⟨cellL hH0.1 hb, cellL hH0.2 hb⟩) (fun hH1 => ?_)
      clear hK K hH0 hb N0 B0
      try simp only [Act.put, List.setIfInBounds_toArray, List.set_cons_zero, List.set_cons_succ, List.getElem_toArray, List.getElem_cons_zero, List.getElem_cons_succ]
      obtain ⟨y1, hy1⟩ : ∃ yw, (y0.alloc (.cells #[.int .i64 x, .int .i64 y] 60)) = yw := ⟨_, rfl⟩
      rw [hy1] at N1 B1 As hH1 ⊢
      obtain ⟨bs, hbs⟩ : ∃ b, y0.heap.size = b := ⟨_, rfl⟩
      rw [hbs] at As ⊢
      clear hbs hy1
      refine wpAnyH_ready (rs := [13]) (by kernel_rfl) (by simp) ?_
      refine AllReadyH.cons rfl (fun K hK => ?_) AllReadyH.nil
      refine step_append_K (K := kEdge) rfl (.tmp 11) (.tmp 23) rfl w.heap.size (.slice ta i tc) (l.take i) (by rfl) N1.out (.slice (some ⟨bs, 0, none⟩) 1 1) [(x, y)] (by rfl) (RowK.one As.out rfl) Hlen.out (Nat.le_trans HB.out.size B1.out.size) ?_
      intro v9 y2 ho9 hg9 hat9
      obtain ⟨a9, m9, c9, rfl⟩ : ∃ a m c, v9 = Value.slice a m c := by
        obtain ⟨a, c, h, -⟩ := (OwnK.row ho9).form
        exact ⟨a, _, c, h⟩
      have HB9 : Hid (Below w.heap.size w y2) := below_grow (HB.out.trans (B1.out.mono HB.out.size)) hg9 (Nat.le_refl _) (fun k hk => (N1.out.lt hk).1)
      have HO9 := Lib.hid ho9
      refine hK.out _ _ (⟨cellL Hca.out.1 HB9.out, cellL Hca.out.2 HB9.out⟩) (fun hH2 => ?_)
      clear hK K hH1 ho9 hg9 hat9 N1 B1 As
      try simp only [Act.put, List.setIfInBounds_toArray, List.set_cons_zero, List.set_cons_succ, List.getElem_toArray, List.getElem_cons_zero, List.getElem_cons_succ]
      refine wpAnyH_take (i := 14) (v := ?_) rfl (by kernel_rfl) (by kernel_rfl) (by kernel_rfl) (fun _ _ _ h => h) (Or.inl ⟨by rfl, ?_⟩) (by assumption) ?_
      rotate_left
      · (intro wx hSw; have q1 := hSw.1; have q2 := hSw.2; clear hSw; go_simp <;> with_reducible rfl)
      try simp only [Act.put, List.setIfInBounds_toArray, List.set_cons_zero, List.set_cons_succ, List.getElem_toArray, List.getElem_cons_zero, List.getElem_cons_succ]
      refine wpAnyH_done (by kernel_rfl) ?_ _
      go_wp2
      go_roundg (l.length - (i + 1))
      case measure => have := Hi.out; have := Hlt.out; omega
      case rel =>
        refine ⟨i + 1, by have := Hi.out; have := Hlt.out; show _ = _; omega, by go_num, ?_, HB9⟩
        rw [Hst.out]; exact HO9
    · have hii : ¬ (i : Int) < (l.length : Int) := by omega
      rw [List.take_of_length_le (by omega)] at HO
      obtain ⟨ta, tc, rfl, -⟩ := HO.out.row.form
      go_wp2
      go_ret
      exact ⟨_, rfl, HO.out, HB.out⟩
end Go.Proofs.Yteiddebjbiadbaa
