/- law 08: GraphGroups. (printed by wip/gen_gmlg.py) -/
import Derived.Test.YteiddebjbiadbaaGmLw
import Derived.Test.YteiddebjbiadbaaGmRc
namespace Go.Proofs.Yteiddebjbiadbaa
open Go.RowKit Gr
attribute [local go_sem ↓] Go.wp_at_zero Go.wp_at_succ

/-- The groups as they lie. -/
structure GrR (W : World) (v : Value) (rows : List (Option Addr × Nat × Nat)) (gs : List (List Nat)) : Prop where
  row : RowK kRow W v rows
  len : rows.length = gs.length
  grp : ∀ (i : Nat) (e : Option Addr × Nat × Nat) (l : List Nat), rows[i]? = some e → gs[i]? = some l → RowK kNat W (.slice e.1 e.2.1 e.2.2) l
theorem GrR.later {W W' : World} {v : Value} {rows : List (Option Addr × Nat × Nat)} {gs : List (List Nat)} (h : GrR W v rows gs) (hb : Below W.heap.size W W') : GrR W' v rows gs :=
  ⟨h.row.later hb, h.len, fun i e l he hl => (h.grp i e l he hl).later hb⟩
theorem hasB_dec {n : Nat} {es : List Ed} (hin : Ins n es) {a b : Nat} : hasB n es (a : Int) (b : Int) = decide ((a, b) ∈ es) := by
  rw [Bool.eq_iff_iff, hasB_edge hin, decide_eq_true_iff]
def insH (es : List Ed) (a : Nat) (l : List Nat) : Bool := l.any fun b => decide ((a, b) ∈ es)
def insG (es : List Ed) (g l : List Nat) : Bool := l.any fun a => insH es a g
def insF (es : List Ed) (gs : List (List Nat)) : Bool := gs.any fun g => insG es g g
theorem insF_true {es : List Ed} {gs : List (List Nat)} : insF es gs = true ↔ ∃ g ∈ gs, ∃ a ∈ g, ∃ b ∈ g, (a, b) ∈ es := by
  unfold insF insG insH
  simp only [List.any_eq_true, decide_eq_true_iff]
theorem insH_succ {es : List Ed} {a : Nat} {l : List Nat} {k y : Nat} (h : l[k]? = some y) : insH es a (l.take (k + 1)) = (insH es a (l.take k) || decide ((a, y) ∈ es)) := by
  unfold insH; rw [List.take_add_one, h, List.any_append]; simp
theorem insG_succ {es : List Ed} {g l : List Nat} {k y : Nat} (h : l[k]? = some y) : insG es g (l.take (k + 1)) = (insG es g (l.take k) || insH es y g) := by
  unfold insG; rw [List.take_add_one, h, List.any_append]; simp
theorem insF_succ {es : List Ed} {gs : List (List Nat)} {k : Nat} {y : List Nat} (h : gs[k]? = some y) : insF es (gs.take (k + 1)) = (insF es (gs.take k) || insG es y y) := by
  unfold insF; rw [List.take_add_one, h, List.any_append]; simp
theorem sort_nodup {l : List Nat} (h : l.Pairwise (· < ·)) : l.Nodup := h.imp (fun h => by omega)
set_option linter.unusedSimpArgs false in
set_option maxRecDepth 100000 in
set_option maxHeartbeats 3200000 in
theorem lawGroups_any {w : World} {m : Nat} {v : Value} {l : List (Int × Int)} (h : RowK kE w v l) (hl : l.length ≤ 9223372036854775807) (hm : m ≤ 255) :
    Calls Try.prog 6 #[.int .u8 (m : Int), v] w (TruePost w) := by
  obtain ⟨av, cv, rfl, -⟩ := h.form
  have HBx : Hid (Below w.heap.size w w) := Below.refl _ _
  have Hm := Lib.hid hm
  have Hl := Lib.hid hl
  have H := Lib.hid h
  clear h
  go_enter Try.func6, Try.ntmps6
  go_wp2_with fail
  refine (known_any _).mono ?_
  rintro r x2 ⟨rfl, hb2⟩
  have HB2 : Hid (Below w.heap.size w x2) := HBx.out.trans (hb2.mono HBx.out.size)
  clear hb2
  have HK := Lib.hid (make_any (H.out.later HB2.out) Hl.out Hm.out)
  go_wp2_with fail
  refine HK.out.mono ?_
  rintro r x3 ⟨hb3, n, p, vg, es, rfl, hn1, hn30, hes, hnm, hin, hG, hO, hp⟩
  have HB3 : Hid (Below w.heap.size w x3) := HB2.out.trans (hb3.mono HB2.out.size)
  have Hn : Hid (1 ≤ n ∧ n ≤ 30 ∧ es.length ≤ 120) := ⟨hn1, hn30, hes⟩
  have Hin := Lib.hid hin
  have Hnm := Lib.hid hnm
  have HG := Lib.hid hG
  obtain ⟨ga, gc, egv, -⟩ := hO.row.form
  obtain ⟨gm, hgm⟩ : ∃ m, (es.map ofEd).length = m := ⟨_, rfl⟩
  rw [hgm] at egv
  subst egv
  have HO := Lib.hid hO
  clear hgm hb3 hn1 hn30 hes hnm hin hG hO hp HK
  go_upto_region 4 with fail
  obtain ⟨y0, hy0⟩ : ∃ y, x3.alloc (.cells #[.int .i64 (n : Int), .slice ga gm gc] 27) = y := ⟨_, rfl⟩
  have hb4 : Below x3.heap.size x3 y0 := by rw [← hy0]; exact (Below.refl _ _).alloc (Nat.le_refl _) _
  have HT : Hid (RowIs y0 x3.heap.size 27 [.int .i64 (n : Int), .slice ga gm gc]) := by rw [← hy0]; exact new_row _ _ _
  rw [hy0]
  have HBy : Hid (Below w.heap.size w y0) := HB3.out.trans (hb4.mono HB3.out.size)
  have HGy := Lib.hid (HG.out.later hb4)
  have HOy := Lib.hid (HO.out.later hb4)
  clear hy0 hb4 HG HO HB3 HB2 HBx
  obtain ⟨t, ht⟩ : ∃ t, x3.heap.size = t := ⟨_, rfl⟩
  rw [ht] at HT ⊢
  clear ht
  have HGc : Hid (∀ W, Below y0.heap.size y0 W → GOk W p n (aft es) (bef es)) := fun W hW => HGy.out.later hW
  have e0 := HT.out.cell (i := 0) rfl
  have e1 := HT.out.cell (i := 1) rfl
  go_upto_region 6 with fail
  refine wp_region_held_drew (S := (fun W => W.cell? ⟨t, 0, none⟩ = some (.int .i64 (n : Int)) ∧ W.cell? ⟨t, 1, none⟩ = some (.slice ga gm gc))) (by kernel_rfl) (⟨e0, e1⟩) (fun hH6a0 => ?_)
  refine wpAnyH_take (i := 0) (v := ?_) rfl (by kernel_rfl) (by kernel_rfl) (by kernel_rfl) (fun _ _ _ h => h) (Or.inl ⟨by rfl, ?_⟩) (by assumption) ?_
  rotate_left
  · (intro wx hSw; (try dsimp only at hSw); go_simp <;> with_reducible rfl)
  try simp only [Act.put, List.setIfInBounds_toArray, List.set_cons_zero, List.set_cons_succ, List.getElem_toArray, List.getElem_cons_zero, List.getElem_cons_succ]
  refine wpAnyH_take (i := 2) (v := ?_) rfl (by kernel_rfl) (by kernel_rfl) (by kernel_rfl) (fun _ _ _ h => h) (Or.inl ⟨by rfl, ?_⟩) (by assumption) ?_
  rotate_left
  · (intro wx hSw; (try dsimp only at hSw); go_simp <;> with_reducible rfl)
  try simp only [Act.put, List.setIfInBounds_toArray, List.set_cons_zero, List.set_cons_succ, List.getElem_toArray, List.getElem_cons_zero, List.getElem_cons_succ]
  refine wpAnyH_ready (rs := [1]) (by kernel_rfl) (by simp) ?_
  refine AllReadyH.cons rfl (fun K hK => ?_) AllReadyH.nil
  go_simp
  go_at_call 26
  with_reducible refine (components_any (HGc.out _ (((Below.refl y0.heap.size y0)).drew)) (es_ges_of Hin.out)).mono ?_
  rintro r z6a1 ⟨v1, rows1, rfl, hb, hr1, hl1, hg1⟩
  have HB6a1 : Hid (Below y0.heap.size y0 z6a1) := (((Below.refl y0.heap.size y0)).drew).trans (hb.mono (((Below.refl y0.heap.size y0)).drew).size)
  have HG1 : Hid (GrR z6a1 v1 rows1 (componentsF (aft es) (bef es) n)) := ⟨hr1, hl1, hg1⟩
  clear hr1 hl1 hg1
  go_wp2_with fail
  refine hK.out _ _ (⟨cellL hH6a0.1 hb, cellL hH6a0.2 hb⟩) (fun hH6a1 => ?_)
  clear hK K hH6a0
  try simp only [Act.put, List.setIfInBounds_toArray, List.set_cons_zero, List.set_cons_succ, List.getElem_toArray, List.getElem_cons_zero, List.getElem_cons_succ]
  clear hb
  refine wpAnyH_ready (rs := [3]) (by kernel_rfl) (by simp) ?_
  refine AllReadyH.cons rfl (fun K hK => ?_) AllReadyH.nil
  go_simp
  go_at_call 27
  with_reducible refine (rComp_any (n := n) (HOy.out.row.later (HB6a1.out)) (by have := Hn.out; omega) Hin.out (by have := Hn.out; omega)).mono ?_
  rintro r z6a2 ⟨v2, rows2, rfl, hb, hr2, hl2, hg2⟩
  have HB6a2 : Hid (Below y0.heap.size y0 z6a2) := (HB6a1.out).trans (hb.mono (HB6a1.out).size)
  have HG2 : Hid (GrR z6a2 v2 rows2 (componentsF (aft es) (bef es) n)) := ⟨hr2, hl2, hg2⟩
  have HG1 := Lib.hid (HG1.out.later hb)
  clear hr2 hl2 hg2
  go_wp2_with fail
  refine hK.out _ _ (⟨cellL hH6a1.1 hb, cellL hH6a1.2 hb⟩) (fun hH6a2 => ?_)
  clear hK K hH6a1
  try simp only [Act.put, List.setIfInBounds_toArray, List.set_cons_zero, List.set_cons_succ, List.getElem_toArray, List.getElem_cons_zero, List.getElem_cons_succ]
  clear hb
  refine wpAnyH_take (i := 4) (v := ?_) rfl (by kernel_rfl) (by kernel_rfl) (by kernel_rfl) (fun _ _ _ h => h) (Or.inl ⟨by rfl, ?_⟩) (by assumption) ?_
  rotate_left
  · (intro wx hSw; (try dsimp only at hSw); go_simp <;> with_reducible rfl)
  try simp only [Act.put, List.setIfInBounds_toArray, List.set_cons_zero, List.set_cons_succ, List.getElem_toArray, List.getElem_cons_zero, List.getElem_cons_succ]
  refine wpAnyH_take (i := 5) (v := ?_) rfl (by kernel_rfl) (by kernel_rfl) (by kernel_rfl) (fun _ _ _ h => h) (Or.inl ⟨by rfl, ?_⟩) (by assumption) ?_
  rotate_left
  · (intro wx hSw; (try dsimp only at hSw); go_simp <;> with_reducible rfl)
  try simp only [Act.put, List.setIfInBounds_toArray, List.set_cons_zero, List.set_cons_succ, List.getElem_toArray, List.getElem_cons_zero, List.getElem_cons_succ]
  refine wpAnyH_done (by kernel_rfl) ?_ _
  obtain ⟨gs, hgs⟩ : ∃ gs, componentsF (aft es) (bef es) n = gs := ⟨_, rfl⟩
  have Hgs := Lib.hid hgs
  have Hglt : Hid (gs.length ≤ 30 ∧ ∀ g ∈ gs, g.length ≤ 30 ∧ ∀ x ∈ g, x < n) := by
    rw [← hgs]
    exact ⟨Nat.le_trans (comps_len Hin.out) Hn.out.2.1, fun g hg => ⟨Nat.le_trans (groups_lt Hin.out g hg).1 Hn.out.2.1, (groups_lt Hin.out g hg).2⟩⟩
  rw [hgs] at HG1 HG2
  obtain ⟨va1, vc1, ev1, -⟩ := HG1.out.row.form
  rw [HG1.out.len] at ev1
  subst ev1
  obtain ⟨va2, vc2, ev2, -⟩ := HG2.out.row.form
  rw [HG2.out.len] at ev2
  subst ev2
  obtain ⟨zz, hzz⟩ : ∃ x, x = z6a2 := ⟨_, rfl⟩
  subst hzz
  have HZ : Hid (Below w.heap.size w zz) := HBy.out.trans (HB6a2.out.mono HBy.out.size)
  have HGz : Hid (GOk zz p n (aft es) (bef es)) := HGy.out.later HB6a2.out
  have HHs : Hid (∀ (x y : Int) (W : World), Below zz.heap.size zz W → Calls Try.prog 28 #[.pointer (some ⟨p, 0, none⟩), .int .i64 x, .int .i64 y] W (IsB (hasB n es x y) W)) := fun x y W hW => has_r (HGz.out.later hW) Hnm.out x y
  clear hgs HB6a1 HB6a2 hH6a2 e0 e1
  go_wp2
  go_loopg [9, 10] gs.length (fun gk tv iv wr => ∃ i : Nat, Hid (i + gk = gs.length) ∧ tv = .bool (insF es (gs.take i)) ∧ iv = .int .i64 i ∧ Hid (Below zz.heap.size zz wr))
  case atStart => exact ⟨0, Nat.zero_add _, by simp [insF], rfl, Below.refl _ _⟩
  case round =>
    obtain ⟨i, Hi, rfl, rfl, HB⟩ := hrel
    by_cases hlt : i < gs.length
    · obtain ⟨g, hg⟩ : ∃ g, gs[i]? = some g := ⟨_, List.getElem?_eq_getElem hlt⟩
      obtain ⟨⟨xp, xn, xc⟩, hr1⟩ : ∃ e, rows1[i]? = some e := ⟨_, List.getElem?_eq_getElem (by have := HG1.out.len; omega)⟩
      obtain ⟨⟨wp1, wn1, wc1⟩, hr2⟩ : ∃ e, rows2[i]? = some e := ⟨_, List.getElem?_eq_getElem (by have := HG2.out.len; omega)⟩
      have hq1 := HG1.out.grp i _ g hr1 hg
      have hq2 := HG2.out.grp i _ g hr2 hg
      dsimp only at hq1 hq2
      obtain ⟨g1, o1, rfl, hca1⟩ := (HG1.out.row.later HB.out).at_ hr1
      obtain ⟨g2, o2, rfl, hca2⟩ := (HG2.out.row.later HB.out).at_ hr2
      have d1 := hca1 0 _ rfl
      have d2 := hca2 0 _ rfl
      simp only [kRow, Nat.mul_one, Nat.add_zero] at d1 d2
      have Hgl := Lib.hid (Hglt.out.2 g (List.mem_of_getElem? hg))
      have HS : Hid (∀ W, Below wr.heap.size wr W → Calls Try.prog 15 #[.slice xp xn xc, .slice wp1 wn1 wc1] W fun r w' => r = .returned (.bool true) ∧ Below W.heap.size W w') :=
        fun W hW => same_eq ((hq1.later HB.out).later hW) ((hq2.later HB.out).later hW) (by have := Hgl.out.1; omega)
      have Hq1 := Lib.hid hq1
      have Hst := Lib.hid (insF_succ (es := es) hg)
      have hxn : xn = g.length := by
        obtain ⟨a, c, e, -⟩ := hq1.form
        simp only [Value.slice.injEq] at e
        exact e.2.1
      have hii : (i : Int) < (gs.length : Int) := by omega
      have his : i ≤ 30 := by have := Hglt.out.1; omega
      have Hlt := Lib.hid hlt
      subst hxn
      have D1 : Hid (zz.cell? ⟨g1, o1 + i, none⟩ = some (.slice xp g.length xc)) := by
        obtain ⟨g', o', he, hca⟩ := HG1.out.row.at_ hr1
        cases he
        have := hca 0 _ rfl
        show _ = _
        simpa only [kRow, Nat.mul_one, Nat.add_zero] using this
      clear hq1 hq2 hca1 hca2 hlt hr1 hr2 hg
      obtain ⟨tb0, htb0⟩ : ∃ b, insF es (gs.take i) = b := ⟨_, rfl⟩
      rw [htb0] at Hst ⊢
      clear htb0
      go_upto_region 13 with fail
      refine wp_region_held_drew (S := (fun W => W.cell? ⟨g1, o1 + i, none⟩ = some (.slice xp g.length xc) ∧ W.cell? ⟨g2, o2 + i, none⟩ = some (.slice wp1 wn1 wc1))) (by kernel_rfl) (⟨d1, d2⟩) (fun hH0 => ?_)
      refine wpAnyH_take (i := 0) (v := ?_) rfl (by kernel_rfl) (by kernel_rfl) (by kernel_rfl) (fun _ _ _ h => h) (Or.inl ⟨by rfl, ?_⟩) (by assumption) ?_
      rotate_left
      · (intro wx hSw; (try dsimp only at hSw); go_simp <;> with_reducible rfl)
      try simp only [Act.put, List.setIfInBounds_toArray, List.set_cons_zero, List.set_cons_succ, List.getElem_toArray, List.getElem_cons_zero, List.getElem_cons_succ]
      refine wpAnyH_take (i := 1) (v := ?_) rfl (by kernel_rfl) (by kernel_rfl) (by kernel_rfl) (fun _ _ _ h => h) (Or.inl ⟨by rfl, ?_⟩) (by assumption) ?_
      rotate_left
      · (intro wx hSw; (try dsimp only at hSw); go_simp <;> with_reducible rfl)
      try simp only [Act.put, List.setIfInBounds_toArray, List.set_cons_zero, List.set_cons_succ, List.getElem_toArray, List.getElem_cons_zero, List.getElem_cons_succ]
      refine wpAnyH_take (i := 2) (v := ?_) rfl (by kernel_rfl) (by kernel_rfl) (by kernel_rfl) (fun _ _ _ h => h) (Or.inl ⟨by rfl, ?_⟩) (by assumption) ?_
      rotate_left
      · (intro wx hSw; (try dsimp only at hSw); go_simp <;> with_reducible rfl)
      try simp only [Act.put, List.setIfInBounds_toArray, List.set_cons_zero, List.set_cons_succ, List.getElem_toArray, List.getElem_cons_zero, List.getElem_cons_succ]
      refine wpAnyH_take (i := 3) (v := ?_) rfl (by kernel_rfl) (by kernel_rfl) (by kernel_rfl) (fun _ _ _ h => h) (Or.inl ⟨by rfl, ?_⟩) (by assumption) ?_
      rotate_left
      · (intro wx hSw; (try dsimp only at hSw); go_simp <;> with_reducible rfl)
      try simp only [Act.put, List.setIfInBounds_toArray, List.set_cons_zero, List.set_cons_succ, List.getElem_toArray, List.getElem_cons_zero, List.getElem_cons_succ]
      refine wpAnyH_take (i := 4) (v := ?_) rfl (by kernel_rfl) (by kernel_rfl) (by kernel_rfl) (fun _ _ _ h => h) (Or.inl ⟨by rfl, ?_⟩) (by assumption) ?_
      rotate_left
      · (intro wx hSw; (try dsimp only at hSw); go_simp <;> with_reducible rfl)
      try simp only [Act.put, List.setIfInBounds_toArray, List.set_cons_zero, List.set_cons_succ, List.getElem_toArray, List.getElem_cons_zero, List.getElem_cons_succ]
      refine wpAnyH_take (i := 5) (v := ?_) rfl (by kernel_rfl) (by kernel_rfl) (by kernel_rfl) (fun _ _ _ h => h) (Or.inl ⟨by rfl, ?_⟩) (by assumption) ?_
      rotate_left
      · (intro wx hSw; (try dsimp only at hSw); go_simp <;> with_reducible rfl)
      try simp only [Act.put, List.setIfInBounds_toArray, List.set_cons_zero, List.set_cons_succ, List.getElem_toArray, List.getElem_cons_zero, List.getElem_cons_succ]
      refine wpAnyH_take (i := 6) (v := ?_) rfl (by kernel_rfl) (by kernel_rfl) (by kernel_rfl) (fun _ _ _ h => h) (Or.inl ⟨by rfl, ?_⟩) (by assumption) ?_
      rotate_left
      · (intro wx hSw; (try dsimp only at hSw); go_simp <;> with_reducible rfl)
      try simp only [Act.put, List.setIfInBounds_toArray, List.set_cons_zero, List.set_cons_succ, List.getElem_toArray, List.getElem_cons_zero, List.getElem_cons_succ]
      refine wpAnyH_take (i := 7) (v := ?_) rfl (by kernel_rfl) (by kernel_rfl) (by kernel_rfl) (fun _ _ _ h => h) (Or.inl ⟨by rfl, ?_⟩) (by assumption) ?_
      rotate_left
      · (intro wx hSw; (try dsimp only at hSw); go_simp <;> with_reducible rfl)
      try simp only [Act.put, List.setIfInBounds_toArray, List.set_cons_zero, List.set_cons_succ, List.getElem_toArray, List.getElem_cons_zero, List.getElem_cons_succ]
      refine wpAnyH_ready (rs := [8]) (by kernel_rfl) (by simp) ?_
      refine AllReadyH.cons rfl (fun K hK => ?_) AllReadyH.nil
      go_simp
      go_at_call 15
      with_reducible refine (HS.out _ (Below.refl _ _).drew).mono ?_
      rintro r y1 ⟨rfl, hb⟩
      have HB2 : Hid (Below zz.heap.size zz y1) := HB.out.trans (((Below.refl wr.heap.size wr).drew.trans hb).mono HB.out.size)
      clear HS
      go_wp2_with fail
      refine hK.out _ _ (⟨cellL hH0.1 hb, cellL hH0.2 hb⟩) (fun hH1 => ?_)
      clear hK K hH0
      try simp only [Act.put, List.setIfInBounds_toArray, List.set_cons_zero, List.set_cons_succ, List.getElem_toArray, List.getElem_cons_zero, List.getElem_cons_succ]
      clear hb
      refine wpAnyH_take (i := 9) (v := ?_) rfl (by kernel_rfl) (by kernel_rfl) (by kernel_rfl) (fun _ _ _ h => h) (Or.inl ⟨by rfl, ?_⟩) (by assumption) ?_
      rotate_left
      · (intro wx hSw; (try dsimp only at hSw); go_simp <;> with_reducible rfl)
      try simp only [Act.put, List.setIfInBounds_toArray, List.set_cons_zero, List.set_cons_succ, List.getElem_toArray, List.getElem_cons_zero, List.getElem_cons_succ]
      refine wpAnyH_done (by kernel_rfl) ?_ _
      clear d1 d2 hH1
      go_wp2
      go_loopg [9, 11] g.length (fun gl tv jv wr => ∃ j : Nat, Hid (j + gl = g.length) ∧ tv = .bool (tb0 || insG es g (g.take j)) ∧ jv = .int .i64 j ∧ Hid (Below zz.heap.size zz wr))
      case atStart => exact ⟨0, Nat.zero_add _, by simp [insG], rfl, HB2⟩
      case round =>
        clear HB HB2
        obtain ⟨j, Hj, rfl, rfl, HBj⟩ := hrel
        have d1 := cellL D1.out HBj.out
        by_cases hltj : j < g.length
        · obtain ⟨x, hx⟩ : ∃ x, g[j]? = some x := ⟨_, List.getElem?_eq_getElem hltj⟩
          obtain ⟨ge, oe, rfl, hca⟩ := Hq1.out.at_ hx
          have D3 : Hid (zz.cell? ⟨ge, oe + j, none⟩ = some (.int .i64 (x : Int))) := by
            have := hca 0 _ rfl
            show _ = _
            simpa only [kNat, Nat.mul_one, Nat.add_zero] using this
          have Hstj := Lib.hid (insG_succ (es := es) (g := g) hx)
          have hjj : (j : Int) < (g.length : Int) := by omega
          have hjs : j ≤ 30 := by have := Hgl.out.1; omega
          have Hltj := Lib.hid hltj
          obtain ⟨tb1, htb1⟩ : ∃ b, (tb0 || insG es g (g.take j)) = b := ⟨_, rfl⟩
          have Htb1 := Lib.hid htb1
          rw [htb1]
          clear htb1 hca hltj hx
          go_wp2
          go_loopg [9, 12] g.length (fun gq tv kv wr => ∃ k : Nat, Hid (k + gq = g.length) ∧ tv = .bool (tb1 || insH es x (g.take k)) ∧ kv = .int .i64 k ∧ Hid (Below zz.heap.size zz wr))
          case atStart => exact ⟨0, Nat.zero_add _, by simp [insH], rfl, HBj⟩
          case round =>
            clear HBj d1
            obtain ⟨k, Hk, rfl, rfl, HBk⟩ := hrel
            have d1 := cellL D1.out HBk.out
            by_cases hltk : k < g.length
            · obtain ⟨y, hy⟩ : ∃ y, g[k]? = some y := ⟨_, List.getElem?_eq_getElem hltk⟩
              obtain ⟨ge', oe', hgg, hca⟩ := Hq1.out.at_ hy
              cases hgg
              have d3 := cellL D3.out HBk.out
              have d4 : wr.cell? ⟨ge, oe + k, none⟩ = some (.int .i64 (y : Int)) := by
                have := hca 0 _ rfl
                simp only [kNat, Nat.mul_one, Nat.add_zero] at this
                exact cellL this HBk.out
              have Hstk := Lib.hid (insH_succ (es := es) (a := x) hy)
              have hkk : (k : Int) < (g.length : Int) := by omega
              have hks : k ≤ 30 := by have := Hgl.out.1; omega
              have Hltk := Lib.hid hltk
              obtain ⟨tb2, htb2⟩ : ∃ b, (tb1 || insH es x (g.take k)) = b := ⟨_, rfl⟩
              have Htb2 := Lib.hid htb2
              rw [htb2]
              clear htb2 hca hltk hy
              cases tb2
              · go_upto_region 21 with fail
                refine wp_region_held_drew (S := (fun W => W.cell? ⟨g1, o1 + i, none⟩ = some (.slice (some ⟨ge, oe, none⟩) g.length xc) ∧ W.cell? ⟨ge, oe + j, none⟩ = some (.int .i64 (x : Int)) ∧ W.cell? ⟨ge, oe + k, none⟩ = some (.int .i64 (y : Int)))) (by kernel_rfl) (⟨d1, d3, d4⟩) (fun hHf0 => ?_)
                refine wpAnyH_take (i := 0) (v := ?_) rfl (by kernel_rfl) (by kernel_rfl) (by kernel_rfl) (fun _ _ _ h => h) (Or.inl ⟨by rfl, ?_⟩) (by assumption) ?_
                rotate_left
                · (intro wx hSw; (try dsimp only at hSw); go_simp <;> with_reducible rfl)
                try simp only [Act.put, List.setIfInBounds_toArray, List.set_cons_zero, List.set_cons_succ, List.getElem_toArray, List.getElem_cons_zero, List.getElem_cons_succ]
                refine wpAnyH_take (i := 1) (v := ?_) rfl (by kernel_rfl) (by kernel_rfl) (by kernel_rfl) (fun _ _ _ h => h) (Or.inl ⟨by rfl, ?_⟩) (by assumption) ?_
                rotate_left
                · (intro wx hSw; (try dsimp only at hSw); go_simp <;> with_reducible rfl)
                try simp only [Act.put, List.setIfInBounds_toArray, List.set_cons_zero, List.set_cons_succ, List.getElem_toArray, List.getElem_cons_zero, List.getElem_cons_succ]
                refine wpAnyH_take (i := 2) (v := ?_) rfl (by kernel_rfl) (by kernel_rfl) (by kernel_rfl) (fun _ _ _ h => h) (Or.inl ⟨by rfl, ?_⟩) (by assumption) ?_
                rotate_left
                · (intro wx hSw; (try dsimp only at hSw); go_simp <;> with_reducible rfl)
                try simp only [Act.put, List.setIfInBounds_toArray, List.set_cons_zero, List.set_cons_succ, List.getElem_toArray, List.getElem_cons_zero, List.getElem_cons_succ]
                refine wpAnyH_take (i := 3) (v := ?_) rfl (by kernel_rfl) (by kernel_rfl) (by kernel_rfl) (fun _ _ _ h => h) (Or.inl ⟨by rfl, ?_⟩) (by assumption) ?_
                rotate_left
                · (intro wx hSw; (try dsimp only at hSw); go_simp <;> with_reducible rfl)
                try simp only [Act.put, List.setIfInBounds_toArray, List.set_cons_zero, List.set_cons_succ, List.getElem_toArray, List.getElem_cons_zero, List.getElem_cons_succ]
                refine wpAnyH_take (i := 4) (v := ?_) rfl (by kernel_rfl) (by kernel_rfl) (by kernel_rfl) (fun _ _ _ h => h) (Or.inl ⟨by rfl, ?_⟩) (by assumption) ?_
                rotate_left
                · (intro wx hSw; (try dsimp only at hSw); go_simp <;> with_reducible rfl)
                try simp only [Act.put, List.setIfInBounds_toArray, List.set_cons_zero, List.set_cons_succ, List.getElem_toArray, List.getElem_cons_zero, List.getElem_cons_succ]
                refine wpAnyH_take (i := 5) (v := ?_) rfl (by kernel_rfl) (by kernel_rfl) (by kernel_rfl) (fun _ _ _ h => h) (Or.inl ⟨by rfl, ?_⟩) (by assumption) ?_
                rotate_left
                · (intro wx hSw; (try dsimp only at hSw); go_simp <;> with_reducible rfl)
                try simp only [Act.put, List.setIfInBounds_toArray, List.set_cons_zero, List.set_cons_succ, List.getElem_toArray, List.getElem_cons_zero, List.getElem_cons_succ]
                refine wpAnyH_take (i := 6) (v := ?_) rfl (by kernel_rfl) (by kernel_rfl) (by kernel_rfl) (fun _ _ _ h => h) (Or.inl ⟨by rfl, ?_⟩) (by assumption) ?_
                rotate_left
                · (intro wx hSw; (try dsimp only at hSw); go_simp <;> with_reducible rfl)
                try simp only [Act.put, List.setIfInBounds_toArray, List.set_cons_zero, List.set_cons_succ, List.getElem_toArray, List.getElem_cons_zero, List.getElem_cons_succ]
                refine wpAnyH_take (i := 7) (v := ?_) rfl (by kernel_rfl) (by kernel_rfl) (by kernel_rfl) (fun _ _ _ h => h) (Or.inl ⟨by rfl, ?_⟩) (by assumption) ?_
                rotate_left
                · (intro wx hSw; (try dsimp only at hSw); go_simp <;> with_reducible rfl)
                try simp only [Act.put, List.setIfInBounds_toArray, List.set_cons_zero, List.set_cons_succ, List.getElem_toArray, List.getElem_cons_zero, List.getElem_cons_succ]
                refine wpAnyH_take (i := 8) (v := ?_) rfl (by kernel_rfl) (by kernel_rfl) (by kernel_rfl) (fun _ _ _ h => h) (Or.inl ⟨by rfl, ?_⟩) (by assumption) ?_
                rotate_left
                · (intro wx hSw; (try dsimp only at hSw); go_simp <;> with_reducible rfl)
                try simp only [Act.put, List.setIfInBounds_toArray, List.set_cons_zero, List.set_cons_succ, List.getElem_toArray, List.getElem_cons_zero, List.getElem_cons_succ]
                refine wpAnyH_take (i := 9) (v := ?_) rfl (by kernel_rfl) (by kernel_rfl) (by kernel_rfl) (fun _ _ _ h => h) (Or.inl ⟨by rfl, ?_⟩) (by assumption) ?_
                rotate_left
                · (intro wx hSw; (try dsimp only at hSw); go_simp <;> with_reducible rfl)
                try simp only [Act.put, List.setIfInBounds_toArray, List.set_cons_zero, List.set_cons_succ, List.getElem_toArray, List.getElem_cons_zero, List.getElem_cons_succ]
                refine wpAnyH_take (i := 10) (v := ?_) rfl (by kernel_rfl) (by kernel_rfl) (by kernel_rfl) (fun _ _ _ h => h) (Or.inl ⟨by rfl, ?_⟩) (by assumption) ?_
                rotate_left
                · (intro wx hSw; (try dsimp only at hSw); go_simp <;> with_reducible rfl)
                try simp only [Act.put, List.setIfInBounds_toArray, List.set_cons_zero, List.set_cons_succ, List.getElem_toArray, List.getElem_cons_zero, List.getElem_cons_succ]
                refine wpAnyH_take (i := 11) (v := ?_) rfl (by kernel_rfl) (by kernel_rfl) (by kernel_rfl) (fun _ _ _ h => h) (Or.inl ⟨by rfl, ?_⟩) (by assumption) ?_
                rotate_left
                · (intro wx hSw; (try dsimp only at hSw); go_simp <;> with_reducible rfl)
                try simp only [Act.put, List.setIfInBounds_toArray, List.set_cons_zero, List.set_cons_succ, List.getElem_toArray, List.getElem_cons_zero, List.getElem_cons_succ]
                refine wpAnyH_take (i := 12) (v := ?_) rfl (by kernel_rfl) (by kernel_rfl) (by kernel_rfl) (fun _ _ _ h => h) (Or.inl ⟨by rfl, ?_⟩) (by assumption) ?_
                rotate_left
                · (intro wx hSw; (try dsimp only at hSw); go_simp <;> with_reducible rfl)
                try simp only [Act.put, List.setIfInBounds_toArray, List.set_cons_zero, List.set_cons_succ, List.getElem_toArray, List.getElem_cons_zero, List.getElem_cons_succ]
                refine wpAnyH_take (i := 13) (v := ?_) rfl (by kernel_rfl) (by kernel_rfl) (by kernel_rfl) (fun _ _ _ h => h) (Or.inl ⟨by rfl, ?_⟩) (by assumption) ?_
                rotate_left
                · (intro wx hSw; (try dsimp only at hSw); go_simp <;> with_reducible rfl)
                try simp only [Act.put, List.setIfInBounds_toArray, List.set_cons_zero, List.set_cons_succ, List.getElem_toArray, List.getElem_cons_zero, List.getElem_cons_succ]
                refine wpAnyH_take (i := 14) (v := ?_) rfl (by kernel_rfl) (by kernel_rfl) (by kernel_rfl) (fun _ _ _ h => h) (Or.inl ⟨by rfl, ?_⟩) (by assumption) ?_
                rotate_left
                · (intro wx hSw; (try dsimp only at hSw); go_simp <;> with_reducible rfl)
                try simp only [Act.put, List.setIfInBounds_toArray, List.set_cons_zero, List.set_cons_succ, List.getElem_toArray, List.getElem_cons_zero, List.getElem_cons_succ]
                refine wpAnyH_take (i := 15) (v := ?_) rfl (by kernel_rfl) (by kernel_rfl) (by kernel_rfl) (fun _ _ _ h => h) (Or.inl ⟨by rfl, ?_⟩) (by assumption) ?_
                rotate_left
                · (intro wx hSw; (try dsimp only at hSw); go_simp <;> with_reducible rfl)
                try simp only [Act.put, List.setIfInBounds_toArray, List.set_cons_zero, List.set_cons_succ, List.getElem_toArray, List.getElem_cons_zero, List.getElem_cons_succ]
                refine wpAnyH_take (i := 16) (v := ?_) rfl (by kernel_rfl) (by kernel_rfl) (by kernel_rfl) (fun _ _ _ h => h) (Or.inl ⟨by rfl, ?_⟩) (by assumption) ?_
                rotate_left
                · (intro wx hSw; (try dsimp only at hSw); go_simp <;> with_reducible rfl)
                try simp only [Act.put, List.setIfInBounds_toArray, List.set_cons_zero, List.set_cons_succ, List.getElem_toArray, List.getElem_cons_zero, List.getElem_cons_succ]
                refine wpAnyH_ready (rs := [17]) (by kernel_rfl) (by simp) ?_
                refine AllReadyH.cons rfl (fun K hK => ?_) AllReadyH.nil
                go_simp
                go_at_call 28
                with_reducible refine (HHs.out (x : Int) (y : Int) _ HBk.out.drew).mono ?_
                rintro r y1 ⟨rfl, hb⟩
                rw [hasB_dec Hin.out]
                have HB3 : Hid (Below zz.heap.size zz y1) := HBk.out.drew.trans (hb.mono HBk.out.drew.size)
                go_wp2_with fail
                refine hK.out _ _ (⟨cellL hHf0.1 hb, cellL hHf0.2.1 hb, cellL hHf0.2.2 hb⟩) (fun hHf1 => ?_)
                clear hK K hHf0
                try simp only [Act.put, List.setIfInBounds_toArray, List.set_cons_zero, List.set_cons_succ, List.getElem_toArray, List.getElem_cons_zero, List.getElem_cons_succ]
                clear hb
                refine wpAnyH_take (i := 18) (v := ?_) rfl (by kernel_rfl) (by kernel_rfl) (by kernel_rfl) (fun _ _ _ h => h) (Or.inl ⟨by rfl, ?_⟩) (by assumption) ?_
                rotate_left
                · (intro wx hSw; (try dsimp only at hSw); go_simp <;> with_reducible rfl)
                try simp only [Act.put, List.setIfInBounds_toArray, List.set_cons_zero, List.set_cons_succ, List.getElem_toArray, List.getElem_cons_zero, List.getElem_cons_succ]
                refine wpAnyH_take (i := 19) (v := ?_) rfl (by kernel_rfl) (by kernel_rfl) (by kernel_rfl) (fun _ _ _ h => h) (Or.inl ⟨by rfl, ?_⟩) (by assumption) ?_
                rotate_left
                · (intro wx hSw; (try dsimp only at hSw); go_simp <;> with_reducible rfl)
                try simp only [Act.put, List.setIfInBounds_toArray, List.set_cons_zero, List.set_cons_succ, List.getElem_toArray, List.getElem_cons_zero, List.getElem_cons_succ]
                refine wpAnyH_done (by kernel_rfl) ?_ _
                have Hre : Hid (decide ((x, y) ∈ es) = (tb1 || insH es x (g.take (k + 1)))) := by
                  show _ = _
                  rw [Hstk.out, ← Bool.or_assoc, Htb2.out, Bool.false_or]
                rw [Hre.out]
                go_wp2
                go_roundg (g.length - (k + 1))
                case measure => have := Hk.out; have := Hltk.out; omega
                case rel => exact ⟨k + 1, by have := Hk.out; have := Hltk.out; show _ = _; omega, rfl, by go_num, HB3⟩
              · have Hre : Hid (true = (tb1 || insH es x (g.take (k + 1)))) := by
                  show _ = _
                  rw [Hstk.out, ← Bool.or_assoc, Htb2.out, Bool.true_or]
                go_upto_region 21 with fail
                refine wp_region_held_drew (S := (fun _ => True)) (by kernel_rfl) (trivial) (fun hHt0 => ?_)
                refine wpAnyH_take (i := 0) (v := ?_) rfl (by kernel_rfl) (by kernel_rfl) (by kernel_rfl) (fun _ _ _ h => h) (Or.inl ⟨by rfl, ?_⟩) (by assumption) ?_
                rotate_left
                · (intro wx hSw; (try dsimp only at hSw); go_simp <;> with_reducible rfl)
                try simp only [Act.put, List.setIfInBounds_toArray, List.set_cons_zero, List.set_cons_succ, List.getElem_toArray, List.getElem_cons_zero, List.getElem_cons_succ]
                refine wpAnyH_take (i := 1) (v := ?_) rfl (by kernel_rfl) (by kernel_rfl) (by kernel_rfl) (fun _ _ _ h => h) (Or.inl ⟨by rfl, ?_⟩) (by assumption) ?_
                rotate_left
                · (intro wx hSw; (try dsimp only at hSw); go_simp <;> with_reducible rfl)
                try simp only [Act.put, List.setIfInBounds_toArray, List.set_cons_zero, List.set_cons_succ, List.getElem_toArray, List.getElem_cons_zero, List.getElem_cons_succ]
                refine wpAnyH_take (i := 2) (v := undef) rfl (by kernel_rfl) (by kernel_rfl) (by kernel_rfl) (fun _ _ _ h => h) (Or.inr ⟨by simp [Region.wanted, yielded, undef], rfl⟩) (by assumption) ?_
                try simp only [Act.put, List.setIfInBounds_toArray, List.set_cons_zero, List.set_cons_succ, List.getElem_toArray, List.getElem_cons_zero, List.getElem_cons_succ]
                refine wpAnyH_take (i := 3) (v := undef) rfl (by kernel_rfl) (by kernel_rfl) (by kernel_rfl) (fun _ _ _ h => h) (Or.inr ⟨by simp [Region.wanted, yielded, undef], rfl⟩) (by assumption) ?_
                try simp only [Act.put, List.setIfInBounds_toArray, List.set_cons_zero, List.set_cons_succ, List.getElem_toArray, List.getElem_cons_zero, List.getElem_cons_succ]
                refine wpAnyH_take (i := 4) (v := undef) rfl (by kernel_rfl) (by kernel_rfl) (by kernel_rfl) (fun _ _ _ h => h) (Or.inr ⟨by simp [Region.wanted, yielded, undef], rfl⟩) (by assumption) ?_
                try simp only [Act.put, List.setIfInBounds_toArray, List.set_cons_zero, List.set_cons_succ, List.getElem_toArray, List.getElem_cons_zero, List.getElem_cons_succ]
                refine wpAnyH_take (i := 5) (v := undef) rfl (by kernel_rfl) (by kernel_rfl) (by kernel_rfl) (fun _ _ _ h => h) (Or.inr ⟨by simp [Region.wanted, yielded, undef], rfl⟩) (by assumption) ?_
                try simp only [Act.put, List.setIfInBounds_toArray, List.set_cons_zero, List.set_cons_succ, List.getElem_toArray, List.getElem_cons_zero, List.getElem_cons_succ]
                refine wpAnyH_take (i := 6) (v := undef) rfl (by kernel_rfl) (by kernel_rfl) (by kernel_rfl) (fun _ _ _ h => h) (Or.inr ⟨by simp [Region.wanted, yielded, undef], rfl⟩) (by assumption) ?_
                try simp only [Act.put, List.setIfInBounds_toArray, List.set_cons_zero, List.set_cons_succ, List.getElem_toArray, List.getElem_cons_zero, List.getElem_cons_succ]
                refine wpAnyH_take (i := 7) (v := undef) rfl (by kernel_rfl) (by kernel_rfl) (by kernel_rfl) (fun _ _ _ h => h) (Or.inr ⟨by simp [Region.wanted, yielded, undef], rfl⟩) (by assumption) ?_
                try simp only [Act.put, List.setIfInBounds_toArray, List.set_cons_zero, List.set_cons_succ, List.getElem_toArray, List.getElem_cons_zero, List.getElem_cons_succ]
                refine wpAnyH_take (i := 8) (v := undef) rfl (by kernel_rfl) (by kernel_rfl) (by kernel_rfl) (fun _ _ _ h => h) (Or.inr ⟨by simp [Region.wanted, yielded, undef], rfl⟩) (by assumption) ?_
                try simp only [Act.put, List.setIfInBounds_toArray, List.set_cons_zero, List.set_cons_succ, List.getElem_toArray, List.getElem_cons_zero, List.getElem_cons_succ]
                refine wpAnyH_take (i := 9) (v := undef) rfl (by kernel_rfl) (by kernel_rfl) (by kernel_rfl) (fun _ _ _ h => h) (Or.inr ⟨by simp [Region.wanted, yielded, undef], rfl⟩) (by assumption) ?_
                try simp only [Act.put, List.setIfInBounds_toArray, List.set_cons_zero, List.set_cons_succ, List.getElem_toArray, List.getElem_cons_zero, List.getElem_cons_succ]
                refine wpAnyH_take (i := 10) (v := undef) rfl (by kernel_rfl) (by kernel_rfl) (by kernel_rfl) (fun _ _ _ h => h) (Or.inr ⟨by simp [Region.wanted, yielded, undef], rfl⟩) (by assumption) ?_
                try simp only [Act.put, List.setIfInBounds_toArray, List.set_cons_zero, List.set_cons_succ, List.getElem_toArray, List.getElem_cons_zero, List.getElem_cons_succ]
                refine wpAnyH_take (i := 11) (v := undef) rfl (by kernel_rfl) (by kernel_rfl) (by kernel_rfl) (fun _ _ _ h => h) (Or.inr ⟨by simp [Region.wanted, yielded, undef], rfl⟩) (by assumption) ?_
                try simp only [Act.put, List.setIfInBounds_toArray, List.set_cons_zero, List.set_cons_succ, List.getElem_toArray, List.getElem_cons_zero, List.getElem_cons_succ]
                refine wpAnyH_take (i := 12) (v := undef) rfl (by kernel_rfl) (by kernel_rfl) (by kernel_rfl) (fun _ _ _ h => h) (Or.inr ⟨by simp [Region.wanted, yielded, undef], rfl⟩) (by assumption) ?_
                try simp only [Act.put, List.setIfInBounds_toArray, List.set_cons_zero, List.set_cons_succ, List.getElem_toArray, List.getElem_cons_zero, List.getElem_cons_succ]
                refine wpAnyH_take (i := 13) (v := undef) rfl (by kernel_rfl) (by kernel_rfl) (by kernel_rfl) (fun _ _ _ h => h) (Or.inr ⟨by simp [Region.wanted, yielded, undef], rfl⟩) (by assumption) ?_
                try simp only [Act.put, List.setIfInBounds_toArray, List.set_cons_zero, List.set_cons_succ, List.getElem_toArray, List.getElem_cons_zero, List.getElem_cons_succ]
                refine wpAnyH_take (i := 14) (v := undef) rfl (by kernel_rfl) (by kernel_rfl) (by kernel_rfl) (fun _ _ _ h => h) (Or.inr ⟨by simp [Region.wanted, yielded, undef], rfl⟩) (by assumption) ?_
                try simp only [Act.put, List.setIfInBounds_toArray, List.set_cons_zero, List.set_cons_succ, List.getElem_toArray, List.getElem_cons_zero, List.getElem_cons_succ]
                refine wpAnyH_take (i := 15) (v := undef) rfl (by kernel_rfl) (by kernel_rfl) (by kernel_rfl) (fun _ _ _ h => h) (Or.inr ⟨by simp [Region.wanted, yielded, undef], rfl⟩) (by assumption) ?_
                try simp only [Act.put, List.setIfInBounds_toArray, List.set_cons_zero, List.set_cons_succ, List.getElem_toArray, List.getElem_cons_zero, List.getElem_cons_succ]
                refine wpAnyH_take (i := 16) (v := undef) rfl (by kernel_rfl) (by kernel_rfl) (by kernel_rfl) (fun _ _ _ h => h) (Or.inr ⟨by simp [Region.wanted, yielded, undef], rfl⟩) (by assumption) ?_
                try simp only [Act.put, List.setIfInBounds_toArray, List.set_cons_zero, List.set_cons_succ, List.getElem_toArray, List.getElem_cons_zero, List.getElem_cons_succ]
                refine wpAnyH_take (i := 17) (v := undef) rfl (by kernel_rfl) (by kernel_rfl) (by kernel_rfl) (fun _ _ _ h => h) (Or.inr ⟨by simp [Region.wanted, yielded, undef], rfl⟩) (by assumption) ?_
                try simp only [Act.put, List.setIfInBounds_toArray, List.set_cons_zero, List.set_cons_succ, List.getElem_toArray, List.getElem_cons_zero, List.getElem_cons_succ]
                refine wpAnyH_take (i := 18) (v := ?_) rfl (by kernel_rfl) (by kernel_rfl) (by kernel_rfl) (fun _ _ _ h => h) (Or.inl ⟨by rfl, ?_⟩) (by assumption) ?_
                rotate_left
                · (intro wx hSw; (try dsimp only at hSw); go_simp <;> with_reducible rfl)
                try simp only [Act.put, List.setIfInBounds_toArray, List.set_cons_zero, List.set_cons_succ, List.getElem_toArray, List.getElem_cons_zero, List.getElem_cons_succ]
                refine wpAnyH_take (i := 19) (v := ?_) rfl (by kernel_rfl) (by kernel_rfl) (by kernel_rfl) (fun _ _ _ h => h) (Or.inl ⟨by rfl, ?_⟩) (by assumption) ?_
                rotate_left
                · (intro wx hSw; (try dsimp only at hSw); go_simp <;> with_reducible rfl)
                try simp only [Act.put, List.setIfInBounds_toArray, List.set_cons_zero, List.set_cons_succ, List.getElem_toArray, List.getElem_cons_zero, List.getElem_cons_succ]
                refine wpAnyH_done (by kernel_rfl) ?_ _
                go_wp2
                go_roundg (g.length - (k + 1))
                case measure => have := Hk.out; have := Hltk.out; omega
                case rel => exact ⟨k + 1, by have := Hk.out; have := Hltk.out; show _ = _; omega, by rw [← Hre.out], by go_num, HBk.out.drew⟩
            · have hkk : ¬ (k : Int) < (g.length : Int) := by omega
              rw [List.take_of_length_le (by omega)]
              have Hre : Hid ((tb1 || insH es x g) = (tb0 || insG es g (g.take (j + 1)))) := by
                show _ = _
                rw [Hstj.out, ← Bool.or_assoc, Htb1.out]
              rw [Hre.out]
              clear hltk
              go_wp2
              go_roundg (g.length - (j + 1))
              case measure => have := Hj.out; have := Hltj.out; omega
              case rel => exact ⟨j + 1, by have := Hj.out; have := Hltj.out; show _ = _; omega, rfl, by go_num, HBk⟩
        · have hjj : ¬ (j : Int) < (g.length : Int) := by omega
          rw [List.take_of_length_le (by omega), ← Hst.out]
          clear hltj
          go_wp2
          go_roundg (gs.length - (i + 1))
          case measure => have := Hi.out; have := Hlt.out; omega
          case rel => exact ⟨i + 1, by have := Hi.out; have := Hlt.out; show _ = _; omega, rfl, by go_num, HBj⟩
    · have hii : ¬ (i : Int) < (gs.length : Int) := by omega
      rw [List.take_of_length_le (by omega)]
      obtain ⟨tb, htb⟩ : ∃ b, insF es gs = b := ⟨_, rfl⟩
      have Hio : Hid ((orderF (aft es) (bef es) n).length < n ↔ tb = true) := by
        show _ ↔ _
        rw [← htb, insF_true, ← Hgs.out, inside_iff Hin.out]
        have ho := order_iff (adj := aft es) (bf := bef es) (fun _ _ => mem_aft) (fun _ _ => mem_bef) (fun i => sort_nodup (aft_sort Hnm.out i)) (fun i => sort_nodup (bef_sort Hnm.out i)) Hin.out
        constructor
        · intro h
          refine Classical.byContradiction (fun q => ?_)
          exact ho.2 (fun a b hab hm => q ⟨a, b, hab, hm⟩) h
        · rintro ⟨a, b, hab, hm⟩
          refine Classical.byContradiction (fun q => ?_)
          exact ho.1 q a b hab hm
      rw [htb]
      have HO := Lib.hid (order_any (HGz.out.later HB.out) (es_ges_of Hin.out) (fun i => sort_nodup (aft_sort Hnm.out i)) (fun i => sort_nodup (bef_sort Hnm.out i)))
      clear htb hlt
      go_wp2_with fail
      refine HO.out.mono ?_
      rintro r z9 ⟨hb9, hq9⟩
      have HF : Hid (Below w.heap.size w z9) := HZ.out.trans ((HB.out.trans (hb9.mono HB.out.size)).mono HZ.out.size)
      rcases hq9 with ⟨q, rfl⟩ | ⟨q, v9, rfl, -⟩
      · obtain rfl : tb = true := Hio.out.1 q
        unfold nilT
        clear hb9 q HO
        go_wp2
        go_ret
        exact ⟨rfl, HF.out⟩
      · obtain rfl : tb = false := by
          cases tb with
          | false => rfl
          | true => exact absurd (Hio.out.2 rfl) q
        clear hb9 q HO
        go_wp2
        go_ret
        exact ⟨rfl, HF.out⟩
end Go.Proofs.Yteiddebjbiadbaa
