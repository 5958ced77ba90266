/- reference 08: New of good edges; Reverse. (printed by wip/gen_gmrv.py) -/
import Derived.Test.YteiddebjbiadbaaGmRn
import Derived.Test.YteiddebjbiadbaaGrH
namespace Go.Proofs.Yteiddebjbiadbaa
open Go.RowKit Gr
attribute [local go_sem ↓] Go.wp_at_zero Go.wp_at_succ

theorem toEd_ofEd (e : Ed) : toEd (ofEd e) = e := by obtain ⟨a, b⟩ := e; simp [toEd, ofEd]
theorem esOf_ofEd (fs : List Ed) : esOf (fs.map ofEd) = refNew fs := by
  unfold esOf
  rw [List.map_map]
  congr 1
  have : toEd ∘ ofEd = id := funext toEd_ofEd
  rw [this, List.map_id]
theorem good_ofEd {n : Nat} {fs : List Ed} (h : Ins n fs) : ∀ e ∈ fs.map ofEd, goodE n e := fun e he => by
  obtain ⟨x, hx, rfl⟩ := List.mem_map.1 he
  have := h x hx
  unfold goodE ofEd
  dsimp only
  omega
theorem rNew_ok {w : World} {n : Nat} {v : Value} {l : List (Int × Int)} (h : RowK kE w v l) (hl : l.length ≤ 65536) (hn : n ≤ 4096) (hg : ∀ e ∈ l, goodE n e) : Calls Try.prog 22 #[.int .i64 (n : Int), v] w fun r w' => ∃ v', r = .returned (.tuple #[.agg #[.int .i64 (n : Int), v'], .int .i64 0]) ∧ OwnK kE w.heap.size w' v' ((esOf l).map ofEd) ∧ Below w.heap.size w w' := by
  refine (rNew_any h (by omega)).mono ?_
  rintro r w' ⟨hb, q⟩
  have e : ((n : Int)).toNat = n := by simp
  rcases q with ⟨q, -⟩ | ⟨-, q, -⟩ | ⟨-, -, ⟨x, hx, q⟩, -⟩ | ⟨-, -, -, v', q, ho⟩
  · omega
  · omega
  · rw [e] at q; exact absurd (hg x hx) q
  · exact ⟨v', q, ho, hb⟩
theorem turn_ins {n : Nat} {es : List Ed} (h : Ins n es) : Ins n (turn es) := fun e he => by
  obtain ⟨a, b⟩ := e
  have := h _ (mem_turn.1 he)
  exact ⟨this.2, this.1⟩
set_option linter.unusedSimpArgs false in
set_option maxHeartbeats 1600000 in
theorem rRev_any {w : World} {n : Nat} {v : Value} {es : List Ed} (h : RowK kE w v (es.map ofEd)) (hl : es.length ≤ 65536) (hin : Ins n es) (hn : n ≤ 4096) :
    Calls Try.prog 35 #[.agg #[.int .i64 (n : Int), v]] w fun r w' => ∃ v', r = .returned (.agg #[.int .i64 (n : Int), v']) ∧ OwnK kE w.heap.size w' v' ((refNew (turn es)).map ofEd) ∧ Below w.heap.size w w' := by
  obtain ⟨av, cv, rfl, -⟩ := h.form
  rw [List.length_map] at h ⊢
  have Hin := Lib.hid hin
  have Hl := Lib.hid hl
  have Hn := Lib.hid hn
  clear hin hn
  go_enter Try.func35, Try.ntmps35
  go_upto_region 1 with fail
  obtain ⟨x1, hx1⟩ : ∃ x1, w.alloc (.cells #[.int .i64 (n : Int), .slice av es.length cv] 27) = x1 := ⟨_, rfl⟩
  have z1 : x1.heap.size = w.heap.size + 1 := by rw [← hx1]; exact World.size_alloc ..
  have b1 : Below w.heap.size w x1 := by rw [← hx1]; exact (Below.refl _ _).alloc (Nat.le_refl _) _
  have r1 : RowIs x1 w.heap.size 27 [.int .i64 (n : Int), .slice av es.length cv] := by rw [← hx1]; exact new_row _ _ _
  obtain ⟨w2, hx2⟩ : ∃ x2, x1.alloc (.cells #[.int .i64 0, .slice none 0 0] 27) = x2 := ⟨_, rfl⟩
  have b2 : Below x1.heap.size x1 w2 := by rw [← hx2]; exact (Below.refl _ _).alloc (Nat.le_refl _) _
  have r2 : RowIs w2 (w.heap.size + 1) 27 [.int .i64 0, .slice none 0 0] := by rw [← hx2, ← z1]; exact new_row _ _ _
  have z2 : w2.heap.size = w.heap.size + 1 + 1 := by rw [← hx2, World.size_alloc, z1]
  rw [hx1, hx2]
  have HB2 : Hid (Below w.heap.size w w2) := b1.trans (b2.mono (by omega))
  have HG := Lib.hid (r1.later b2)
  have HR := Lib.hid r2
  have H := Lib.hid (h.later HB2.out)
  clear hx1 hx2 b1 b2 r1 r2 z1 h
  obtain ⟨s, hs⟩ : ∃ s, w.heap.size = s := ⟨_, rfl⟩
  have Hs := Lib.hid hs
  have Z2 := Lib.hid z2
  rw [hs] at HG HR Z2 ⊢
  clear hs z2
  go_wp2
  go_loopg [3, 4] es.length (fun gk vt iv wr => ∃ i : Nat, Hid (i + gk = es.length) ∧ iv = .int .i64 i ∧ Hid (OwnK kE w2.heap.size wr vt (((turn es).take i).map ofEd)) ∧ Hid (Below w2.heap.size w2 wr))
  case atStart => exact ⟨0, Nat.zero_add _, rfl, OwnK.nil _ _, Below.refl _ _⟩
  case round =>
    obtain ⟨i, Hi, rfl, HO, HB⟩ := hrel
    have c1 := cellL (HG.out.cell (i := 1) rfl) HB.out
    by_cases hlt : i < es.length
    · obtain ⟨⟨p, q⟩, hx⟩ : ∃ e, es[i]? = some e := ⟨_, List.getElem?_eq_getElem hlt⟩
      obtain ⟨g, off, c, hv, p1, p2⟩ := H.out.pair (i := i) (x := (p : Int)) (y := (q : Int)) (by rw [List.getElem?_map, hx]; rfl)
      obtain ⟨rfl, rfl⟩ : av = some ⟨g, off, none⟩ ∧ cv = c := by simpa using hv
      have Hca : Hid (w2.cell? ⟨s, 1, none⟩ = some (.slice (some ⟨g, off, none⟩) es.length cv) ∧ w2.cell? ⟨g, off + i * 2, none⟩ = some (.int .i64 (p : Int)) ∧ w2.cell? ⟨g, off + i * 2 + 1, none⟩ = some (.int .i64 (q : Int))) := ⟨HG.out.cell (i := 1) rfl, p1, p2⟩
      have d1 := cellL p1 HB.out
      have d2 := cellL p2 HB.out
      have hii : (i : Int) < (es.length : Int) := by omega
      have hst : ((turn es).take (i + 1)).map ofEd = ((turn es).take i).map ofEd ++ [((q : Int), (p : Int))] := by
        rw [List.take_add_one, List.map_append]
        congr 1
        unfold turn
        rw [List.getElem?_map, hx]; rfl
      obtain ⟨ta, tc, rfl, -⟩ := HO.out.row.form
      have htl : (((turn es).take i).map ofEd).length = i := by rw [List.length_map, List.length_take]; unfold turn; rw [List.length_map]; omega
      rw [htl] at HO ⊢
      have Hst := Lib.hid hst
      have Hlen : Hid ((((turn es).take i).map ofEd).length + [((q : Int), (p : Int))].length ≤ 1000000) := by show _ ≤ _; rw [htl, List.length_singleton]; omega
      have Hlt := Lib.hid hlt
      clear hst htl hlt hv p1 p2 hx
      go_upto_region 5 with fail
      refine wp_region_held_drew (S := (fun W => W.cell? ⟨s, 1, none⟩ = some (.slice (some ⟨g, off, none⟩) es.length cv) ∧ W.cell? ⟨g, off + i * 2, none⟩ = some (.int .i64 (p : Int)) ∧ W.cell? ⟨g, off + i * 2 + 1, none⟩ = some (.int .i64 (q : Int)))) (by kernel_rfl) (⟨c1, d1, d2⟩) (fun hH0 => ?_)
      have N0 := Lib.hid (HO.out.later (Below.refl wr.heap.size wr).drew)
      have B0 : Hid (Below wr.heap.size wr wr.drew) := (Below.refl _ _).drew
      obtain ⟨y0, hy0⟩ : ∃ yw, wr.drew = yw := ⟨_, rfl⟩
      rw [hy0] at N0 B0 hH0 ⊢
      clear hy0
      refine wpAnyH_take (i := 0) (v := ?_) rfl (by kernel_rfl) (by kernel_rfl) (by kernel_rfl) (fun _ _ _ h => h) (Or.inl ⟨by rfl, ?_⟩) (by assumption) ?_
      rotate_left
      · (intro wx hSw; have q1 := hSw.1; have q2 := hSw.2.1; have q3 := hSw.2.2; clear hSw; go_simp <;> with_reducible rfl)
      try simp only [Act.put, List.setIfInBounds_toArray, List.set_cons_zero, List.set_cons_succ, List.getElem_toArray, List.getElem_cons_zero, List.getElem_cons_succ]
      refine wpAnyH_take (i := 1) (v := ?_) rfl (by kernel_rfl) (by kernel_rfl) (by kernel_rfl) (fun _ _ _ h => h) (Or.inl ⟨by rfl, ?_⟩) (by assumption) ?_
      rotate_left
      · (intro wx hSw; have q1 := hSw.1; have q2 := hSw.2.1; have q3 := hSw.2.2; clear hSw; go_simp <;> with_reducible rfl)
      try simp only [Act.put, List.setIfInBounds_toArray, List.set_cons_zero, List.set_cons_succ, List.getElem_toArray, List.getElem_cons_zero, List.getElem_cons_succ]
      refine wpAnyH_take (i := 3) (v := ?_) rfl (by kernel_rfl) (by kernel_rfl) (by kernel_rfl) (fun _ _ _ h => h) (Or.inl ⟨by rfl, ?_⟩) (by assumption) ?_
      rotate_left
      · (intro wx hSw; have q1 := hSw.1; have q2 := hSw.2.1; have q3 := hSw.2.2; clear hSw; go_simp <;> with_reducible rfl)
      try simp only [Act.put, List.setIfInBounds_toArray, List.set_cons_zero, List.set_cons_succ, List.getElem_toArray, List.getElem_cons_zero, List.getElem_cons_succ]
      refine wpAnyH_take (i := 7) (v := ?_) rfl (by kernel_rfl) (by kernel_rfl) (by kernel_rfl) (fun _ _ _ h => h) (Or.inl ⟨by rfl, ?_⟩) (by assumption) ?_
      rotate_left
      · (intro wx hSw; have q1 := hSw.1; have q2 := hSw.2.1; have q3 := hSw.2.2; clear hSw; go_simp <;> with_reducible rfl)
      try simp only [Act.put, List.setIfInBounds_toArray, List.set_cons_zero, List.set_cons_succ, List.getElem_toArray, List.getElem_cons_zero, List.getElem_cons_succ]
      refine wpAnyH_take (i := 9) (v := ?_) rfl (by kernel_rfl) (by kernel_rfl) (by kernel_rfl) (fun _ _ _ h => h) (Or.inl ⟨by rfl, ?_⟩) (by assumption) ?_
      rotate_left
      · (intro wx hSw; have q1 := hSw.1; have q2 := hSw.2.1; have q3 := hSw.2.2; clear hSw; go_simp <;> with_reducible rfl)
      try simp only [Act.put, List.setIfInBounds_toArray, List.set_cons_zero, List.set_cons_succ, List.getElem_toArray, List.getElem_cons_zero, List.getElem_cons_succ]
      refine wpAnyH_take (i := 2) (v := ?_) rfl (by kernel_rfl) (by kernel_rfl) (by kernel_rfl) (fun _ _ _ h => h) (Or.inl ⟨by rfl, ?_⟩) (by assumption) ?_
      rotate_left
      · (intro wx hSw; have q1 := hSw.1; have q2 := hSw.2.1; have q3 := hSw.2.2; clear hSw; go_simp <;> with_reducible rfl)
      try simp only [Act.put, List.setIfInBounds_toArray, List.set_cons_zero, List.set_cons_succ, List.getElem_toArray, List.getElem_cons_zero, List.getElem_cons_succ]
      refine wpAnyH_take (i := 8) (v := ?_) rfl (by kernel_rfl) (by kernel_rfl) (by kernel_rfl) (fun _ _ _ h => h) (Or.inl ⟨by rfl, ?_⟩) (by assumption) ?_
      rotate_left
      · (intro wx hSw; have q1 := hSw.1; have q2 := hSw.2.1; have q3 := hSw.2.2; clear hSw; go_simp <;> with_reducible rfl)
      try simp only [Act.put, List.setIfInBounds_toArray, List.set_cons_zero, List.set_cons_succ, List.getElem_toArray, List.getElem_cons_zero, List.getElem_cons_succ]
      refine wpAnyH_take (i := 4) (v := ?_) rfl (by kernel_rfl) (by kernel_rfl) (by kernel_rfl) (fun _ _ _ h => h) (Or.inl ⟨by rfl, ?_⟩) (by assumption) ?_
      rotate_left
      · (intro wx hSw; have q1 := hSw.1; have q2 := hSw.2.1; have q3 := hSw.2.2; clear hSw; go_simp <;> with_reducible rfl)
      try simp only [Act.put, List.setIfInBounds_toArray, List.set_cons_zero, List.set_cons_succ, List.getElem_toArray, List.getElem_cons_zero, List.getElem_cons_succ]
      refine wpAnyH_take (i := 10) (v := ?_) rfl (by kernel_rfl) (by kernel_rfl) (by kernel_rfl) (fun _ _ _ h => h) (Or.inl ⟨by rfl, ?_⟩) (by assumption) ?_
      rotate_left
      · (intro wx hSw; have q1 := hSw.1; have q2 := hSw.2.1; have q3 := hSw.2.2; clear hSw; go_simp <;> with_reducible rfl)
      try simp only [Act.put, List.setIfInBounds_toArray, List.set_cons_zero, List.set_cons_succ, List.getElem_toArray, List.getElem_cons_zero, List.getElem_cons_succ]
      refine wpAnyH_take (i := 5) (v := ?_) rfl (by kernel_rfl) (by kernel_rfl) (by kernel_rfl) (fun _ _ _ h => h) (Or.inl ⟨by rfl, ?_⟩) (by assumption) ?_
      rotate_left
      · (intro wx hSw; have q1 := hSw.1; have q2 := hSw.2.1; have q3 := hSw.2.2; clear hSw; go_simp <;> with_reducible rfl)
      try simp only [Act.put, List.setIfInBounds_toArray, List.set_cons_zero, List.set_cons_succ, List.getElem_toArray, List.getElem_cons_zero, List.getElem_cons_succ]
      refine wpAnyH_take (i := 11) (v := ?_) rfl (by kernel_rfl) (by kernel_rfl) (by kernel_rfl) (fun _ _ _ h => h) (Or.inl ⟨by rfl, ?_⟩) (by assumption) ?_
      rotate_left
      · (intro wx hSw; have q1 := hSw.1; have q2 := hSw.2.1; have q3 := hSw.2.2; clear hSw; go_simp <;> with_reducible rfl)
      try simp only [Act.put, List.setIfInBounds_toArray, List.set_cons_zero, List.set_cons_succ, List.getElem_toArray, List.getElem_cons_zero, List.getElem_cons_succ]
      refine wpAnyH_take (i := 6) (v := ?_) rfl (by kernel_rfl) (by kernel_rfl) (by kernel_rfl) (fun _ _ _ h => h) (Or.inl ⟨by rfl, ?_⟩) (by assumption) ?_
      rotate_left
      · (intro wx hSw; have q1 := hSw.1; have q2 := hSw.2.1; have q3 := hSw.2.2; clear hSw; go_simp <;> with_reducible rfl)
      try simp only [Act.put, List.setIfInBounds_toArray, List.set_cons_zero, List.set_cons_succ, List.getElem_toArray, List.getElem_cons_zero, List.getElem_cons_succ]
      refine wpAnyH_take (i := 12) (v := ?_) rfl (by kernel_rfl) (by kernel_rfl) (by kernel_rfl) (fun _ _ _ h => h) (Or.inl ⟨by rfl, ?_⟩) (by assumption) ?_
      rotate_left
      · (intro wx hSw; have q1 := hSw.1; have q2 := hSw.2.1; have q3 := hSw.2.2; clear hSw; go_simp <;> with_reducible rfl)
      try simp only [Act.put, List.setIfInBounds_toArray, List.set_cons_zero, List.set_cons_succ, List.getElem_toArray, List.getElem_cons_zero, List.getElem_cons_succ]
      refine wpAnyH_take (i := 13) (v := ?_) rfl (by kernel_rfl) (by kernel_rfl) (by kernel_rfl) (fun _ _ _ h => h) (Or.inl ⟨by rfl, ?_⟩) (by assumption) ?_
      rotate_left
      · (intro wx hSw; have q1 := hSw.1; have q2 := hSw.2.1; have q3 := hSw.2.2; clear hSw; go_simp <;> with_reducible rfl)
      try simp only [Act.put, List.setIfInBounds_toArray, List.set_cons_zero, List.set_cons_succ, List.getElem_toArray, List.getElem_cons_zero, List.getElem_cons_succ]
      refine wpAnyH_ready (rs := [14]) (by kernel_rfl) (by simp) ?_
      refine AllReadyH.cons rfl (fun K hK => ?_) AllReadyH.nil
      have hb : Below y0.heap.size y0 (y0.alloc (.cells #[.int .i64 (q : Int), .int .i64 (p : Int)] 71)) := (Below.refl _ _).alloc (Nat.le_refl _) _
      have As : Hid (RowIs (y0.alloc (.cells #[.int .i64 (q : Int), .int .i64 (p : Int)] 71)) y0.heap.size 71 [.int .i64 (q : Int), .int .i64 (p : Int)]) := new_row y0 71 [.int .i64 (q : Int), .int .i64 (p : Int)]
      have N1 := Lib.hid (N0.out.later hb)
      have B1 := Lib.hid (B0.out.trans (hb.mono B0.out.size))
      go_simp
      refine hK.out _ _ (⟨cellL hH0.1 hb, cellL hH0.2.1 hb, cellL hH0.2.2 hb⟩) (fun hH1 => ?_)
      clear hK K hH0 hb N0 B0
      try simp only [Act.put, List.setIfInBounds_toArray, List.set_cons_zero, List.set_cons_succ, List.getElem_toArray, List.getElem_cons_zero, List.getElem_cons_succ]
      obtain ⟨y1, hy1⟩ : ∃ yw, (y0.alloc (.cells #[.int .i64 (q : Int), .int .i64 (p : Int)] 71)) = yw := ⟨_, rfl⟩
      rw [hy1] at N1 B1 As hH1 ⊢
      obtain ⟨bs, hbs⟩ : ∃ b, y0.heap.size = b := ⟨_, rfl⟩
      rw [hbs] at As ⊢
      clear hbs hy1
      refine wpAnyH_ready (rs := [15]) (by kernel_rfl) (by simp) ?_
      refine AllReadyH.cons rfl (fun K hK => ?_) AllReadyH.nil
      refine step_append_K (K := kE) rfl (.tmp 14) (.tmp 28) rfl w2.heap.size (.slice ta i tc) (((turn es).take i).map ofEd) (by rfl) N1.out (.slice (some ⟨bs, 0, none⟩) 1 1) [((q : Int), (p : Int))] (by rfl) (RowK.one As.out rfl) Hlen.out (Nat.le_trans HB.out.size B1.out.size) ?_
      intro v9 y2 ho9 hg9 hat9
      obtain ⟨a9, m9, c9, rfl⟩ : ∃ a m c, v9 = Value.slice a m c := by
        obtain ⟨a, c, h, -⟩ := (OwnK.row ho9).form
        exact ⟨a, _, c, h⟩
      have HB9 : Hid (Below w2.heap.size w2 y2) := below_grow (HB.out.trans (B1.out.mono HB.out.size)) hg9 (Nat.le_refl _) (fun k hk => (N1.out.lt hk).1)
      have HO9 := Lib.hid ho9
      refine hK.out _ _ (⟨cellL Hca.out.1 HB9.out, cellL Hca.out.2.1 HB9.out, cellL Hca.out.2.2 HB9.out⟩) (fun hH2 => ?_)
      clear hK K hH1 ho9 hg9 hat9 N1 B1 As
      try simp only [Act.put, List.setIfInBounds_toArray, List.set_cons_zero, List.set_cons_succ, List.getElem_toArray, List.getElem_cons_zero, List.getElem_cons_succ]
      refine wpAnyH_take (i := 16) (v := ?_) rfl (by kernel_rfl) (by kernel_rfl) (by kernel_rfl) (fun _ _ _ h => h) (Or.inl ⟨by rfl, ?_⟩) (by assumption) ?_
      rotate_left
      · (intro wx hSw; have q1 := hSw.1; have q2 := hSw.2.1; have q3 := hSw.2.2; clear hSw; go_simp <;> with_reducible rfl)
      try simp only [Act.put, List.setIfInBounds_toArray, List.set_cons_zero, List.set_cons_succ, List.getElem_toArray, List.getElem_cons_zero, List.getElem_cons_succ]
      refine wpAnyH_done (by kernel_rfl) ?_ _
      go_wp2
      go_roundg (es.length - (i + 1))
      case measure => have := Hi.out; have := Hlt.out; omega
      case rel =>
        refine ⟨i + 1, by have := Hi.out; have := Hlt.out; show _ = _; omega, by go_num, ?_, HB9⟩
        rw [Hst.out]; exact HO9
    · have hii : ¬ (i : Int) < (es.length : Int) := by omega
      have c0 := cellL (HG.out.cell (i := 0) rfl) HB.out
      rw [List.take_of_length_le (by unfold turn; rw [List.length_map]; omega)] at HO
      have HN := Lib.hid (rNew_ok (n := n) HO.out.row (by rw [List.length_map]; unfold turn; rw [List.length_map]; exact Hl.out) Hn.out (good_ofEd (turn_ins Hin.out)))
      rw [esOf_ofEd] at HN
      obtain ⟨ta, tc, hta, -⟩ := HO.out.row.form
      obtain ⟨m, hm⟩ : ∃ m, ((turn es).map ofEd).length = m := ⟨_, rfl⟩
      rw [hm] at hta
      subst hta
      clear hm HO
      go_wp2_with fail
      refine HN.out.mono ?_
      rintro r w3 ⟨v3, rfl, ho3, hb3⟩
      have HB3 : Hid (Below w2.heap.size w2 w3) := HB.out.trans (hb3.mono HB.out.size)
      obtain ⟨a3, c3, e3, -⟩ := ho3.row.form
      obtain ⟨m3, hm3⟩ : ∃ m, ((refNew (turn es)).map ofEd).length = m := ⟨_, rfl⟩
      rw [hm3] at e3
      subst e3
      have HO3 := Lib.hid (ho3.mono HB.out.size)
      clear hm3 hb3 ho3 HN HB c0 c1
      go_upto_region 7 with fail
      obtain ⟨y1, hy1⟩ : ∃ y, w3.alloc (.cells #[.int .i64 (n : Int), .slice a3 m3 c3] 27) = y := ⟨_, rfl⟩
      have hb4 : Below w3.heap.size w3 y1 := by rw [← hy1]; exact (Below.refl _ _).alloc (Nat.le_refl _) _
      have hr4 : RowIs y1 w3.heap.size 27 [.int .i64 (n : Int), .slice a3 m3 c3] := by rw [← hy1]; exact new_row _ _ _
      rw [hy1]
      have HB4 : Hid (Below w2.heap.size w2 y1) := HB3.out.trans (hb4.mono HB3.out.size)
      have HO4 := Lib.hid (HO3.out.later hb4)
      have HR4 := Lib.hid (HR.out.later HB4.out)
      have e1 := hr4.cell (i := 0) rfl
      have e2 := hr4.cell (i := 1) rfl
      have f1 := HR4.out.cell (i := 0) rfl
      have f2 := HR4.out.cell (i := 1) rfl
      have f3 := RowIs.free HR4.out 0
      have f4 := RowIs.free HR4.out 1
      clear hy1 hb4 hr4
      obtain ⟨t4, ht4⟩ : ∃ t, w3.heap.size = t := ⟨_, rfl⟩
      rw [ht4] at e1 e2 ⊢
      clear ht4 HB3 HO3
      have HE : Hid (Below w.heap.size w ((y1.setCell ⟨s + 1, 0, none⟩ (.int .i64 n)).setCell ⟨s + 1, 1, none⟩ (.slice a3 m3 c3)) ∧ RowIs ((y1.setCell ⟨s + 1, 0, none⟩ (.int .i64 n)).setCell ⟨s + 1, 1, none⟩ (.slice a3 m3 c3)) (s + 1) 27 [.int .i64 n, .slice a3 m3 c3]) := by
        have hle : w.heap.size ≤ s + 1 := by have := Hs.out; omega
        have hlow : Below w.heap.size w y1 := HB2.out.trans (HB4.out.mono HB2.out.size)
        exact ⟨(hlow.setCell (p := ⟨s + 1, 0, none⟩) hle _).setCell (p := ⟨s + 1, 1, none⟩) hle _, RowIs.set (RowIs.set HR4.out 0 _) 1 _⟩
      have HF : Hid (OwnK kE w.heap.size ((y1.setCell ⟨s + 1, 0, none⟩ (.int .i64 n)).setCell ⟨s + 1, 1, none⟩ (.slice a3 m3 c3)) (.slice a3 m3 c3) ((refNew (turn es)).map ofEd)) :=
        (OwnK.set (OwnK.set HO4.out (by have := Z2.out; omega)) (by have := Z2.out; omega)).mono HB2.out.size
      go_wp2
      refine bodyPost_ret (v := .agg #[.int .i64 n, .slice a3 m3 c3]) (results_g1 rfl _ _ (s + 1) (by rfl) HE.out.2) rfl ?_
      exact ⟨_, rfl, HF.out, HE.out.1⟩
end Go.Proofs.Yteiddebjbiadbaa
