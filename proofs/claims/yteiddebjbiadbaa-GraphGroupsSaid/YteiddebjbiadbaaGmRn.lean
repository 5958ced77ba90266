/- reference 08: New. (printed by wip/gen_gmrn.py) -/
import Derived.Test.YteiddebjbiadbaaGmR
namespace Go.Proofs.Yteiddebjbiadbaa
open Go.RowKit Gr
attribute [local go_sem ↓] Go.wp_at_zero Go.wp_at_succ

set_option maxRecDepth 100000 in
theorem run_equal_E (w : World) (a1 a2 b1 b2 : Int) : (Op.equal 71 (.agg #[.int .i64 a1, .int .i64 a2]) (.agg #[.int .i64 b1, .int .i64 b2])).run Try.prog w = .ok (eqE (a1, a2) (b1, b2)) w := by
  have hu : Try.prog.underlying 71 = some (.struct (Try.prog.fieldsOf 71)) := by kernel_rfl
  have hst : Try.prog.stoodInHeld 71 = false := by kernel_rfl
  simp only [Op.equal, Op.maxDepth]
  rw [run_equalIn_struct w 9999 _ _ _ hu hst]
  simp [go_sem, Try.underlying3]
  unfold eqE
  by_cases h1 : a1 = b1
  case neg => simp [h1]
  by_cases h2 : a2 = b2
  case neg => simp [h2]
  simp [h1, h2]
theorem run_eql_E (w : World) (a1 a2 b1 b2 : Int) : (binOp .eql 71 (.agg #[.int .i64 a1, .int .i64 a2]) (.agg #[.int .i64 b1, .int .i64 b2])).run Try.prog w = .ok (.bool (eqE (a1, a2) (b1, b2))) w := by
  have h := run_equal_E w a1 a2 b1 b2
  simp only [binOp]
  simp [h]
attribute [local go_sem ↓] run_eql_E
theorem befB_ed (a b : Ed) : befB (ofEd a) (ofEd b) = decide (ltE a b) := by
  obtain ⟨a1, a2⟩ := a
  obtain ⟨b1, b2⟩ := b
  rw [Bool.eq_iff_iff, decide_eq_true_iff]
  unfold befB ofEd ltE
  simp only [Bool.or_eq_true, Bool.and_eq_true, decide_eq_true_iff]
  omega
theorem infoG : (Try.prog.info? 27).map (·.size) = some 2 := by kernel_rfl
theorem results_g2 {fn : Func} {p u : Tmp} (h : fn.results = #[.cell p 27, .tmp u]) (tmps : Array Value) (w : World) (X : Nat) {a b : Value} (hp : tmps.getD p undef = .pointer (some ⟨X, 0, none⟩)) {v : Value} (hu : tmps.getD u undef = v) (ht : RowIs w X 27 [a, b]) :
    (results fn tmps).run Try.prog w = .ok (.tuple #[.agg #[a, b], v]) w := by
  have hv : (loadVar 27 ⟨X, 0, none⟩).run Try.prog w = .ok (.agg #[a, b]) w := run_loadVar_row w X _ _ _ (0, 0) _ ht Try.underlying27 rfl infoG
  rw [results_cell_tmp h, hp, hu]
  simp only [asAddr, Sem.run_pure, Result.andThen_ok, hv]
theorem results_g1 {fn : Func} {p : Tmp} (h : fn.results = #[.cell p 27]) (tmps : Array Value) (w : World) (X : Nat) {a b : Value} (hp : tmps.getD p undef = .pointer (some ⟨X, 0, none⟩)) (ht : RowIs w X 27 [a, b]) :
    (results fn tmps).run Try.prog w = .ok (.agg #[a, b]) w :=
  results_cell_row h tmps w X _ _ _ _ hp ht Try.underlying27 rfl infoG
def rErr (c : Int) : Value := .tuple #[.agg #[.int .i64 0, .slice none 0 0], .int .i64 c]
def RNewPost (w : World) (nodes : Int) (l : List (Int × Int)) (r : Ending) (w' : World) : Prop :=
  Below w.heap.size w w' ∧ (((nodes < 0 ∨ 4096 < nodes) ∧ r = .returned (rErr 2)) ∨ ((0 ≤ nodes ∧ nodes ≤ 4096) ∧ 65536 < l.length ∧ r = .returned (rErr 9))
    ∨ ((0 ≤ nodes ∧ nodes ≤ 4096) ∧ l.length ≤ 65536 ∧ (∃ e ∈ l, ¬ goodE nodes.toNat e) ∧ r = .returned (rErr 8)) ∨ ((0 ≤ nodes ∧ nodes ≤ 4096) ∧ l.length ≤ 65536 ∧ (∀ e ∈ l, goodE nodes.toNat e) ∧ ∃ v, r = .returned (.tuple #[.agg #[.int .i64 nodes, v], .int .i64 0]) ∧ OwnK kE w.heap.size w' v ((esOf l).map ofEd)))
/-- New under way: the result's box at s, the graph's at s + 1. -/
structure RnAt (w W : World) (s n : Nat) (gv : Value) (es : List Ed) : Prop where
  low : Below w.heap.size w W
  res : RowIs W s 27 [.int .i64 0, .slice none 0 0]
  box : RowIs W (s + 1) 27 [.int .i64 (n : Int), gv]
  own : OwnK kE (s + 1 + 1) W gv (es.map ofEd)
  nil : es = [] → gv = .slice none 0 0
  up : w.heap.size ≤ s
theorem RnAt.later {w W W' : World} {s n : Nat} {gv : Value} {es : List Ed} (h : RnAt w W s n gv es) (hb : Below W.heap.size W W') : RnAt w W' s n gv es :=
  ⟨h.low.trans (hb.mono h.low.size), h.res.later hb, h.box.later hb, h.own.later hb, h.nil, h.up⟩
theorem RnAt.put {w W W' : World} {s n : Nat} {gv v : Value} {es fs : List Ed} (h : RnAt w W s n gv es) (hb : Below W.heap.size W W') (ho : OwnK kE W.heap.size W' v (fs.map ofEd)) (hf : fs ≠ []) : RnAt w (W'.setCell ⟨s + 1, 1, none⟩ v) s n v fs := by
  have h' := h.later hb
  have hs : s + 1 + 1 ≤ W.heap.size := h.box.lt
  exact ⟨h'.low.setCell (p := ⟨s + 1, 1, none⟩) (show w.heap.size ≤ s + 1 by have := h.up; omega) _, RowIs.other_set h'.res (by omega) _ _, RowIs.set h'.box 1 v, OwnK.set (ho.mono hs) (Nat.lt_succ_self _), fun q => absurd q hf, h.up⟩
theorem ins_len (es : List Ed) (e : Ed) : (insE es e).length ≤ es.length + 1 := by
  unfold insE
  dsimp only
  split
  · omega
  · rw [List.length_append, List.length_cons, List.length_take, List.length_drop]; omega
theorem refNew_len (l : List Ed) : (refNew l).length ≤ l.length := by
  have gen : ∀ (l es : List Ed), (l.foldl insE es).length ≤ es.length + l.length := by
    intro l
    induction l with
    | nil => intro es; simp
    | cons x l ih =>
      intro es
      rw [List.foldl_cons, List.length_cons]
      have h1 := ih (insE es x)
      have h2 := ins_len es x
      omega
  have := gen l []
  simpa [refNew] using this
theorem refNew_snoc (l : List Ed) (e : Ed) : refNew (l ++ [e]) = insE (refNew l) e := by unfold refNew; rw [List.foldl_append]; rfl
/-- Where an edge belongs: behind all that come before it. -/
def plE (es : List Ed) (e : Ed) : Nat := (es.takeWhile fun x => decide (ltE x e)).length
theorem plE_le (es : List Ed) (e : Ed) : plE es e ≤ es.length := (List.takeWhile_sublist _).length_le
theorem plE_lt {es : List Ed} {e x : Ed} {k : Nat} (h : k < plE es e) (hx : es[k]? = some x) : ltE x e := by
  unfold plE at h
  induction es generalizing k with
  | nil => simp at h
  | cons a l ih =>
    rw [List.takeWhile_cons] at h
    split at h
    · rename_i ha
      cases k with
      | zero => simp at hx; subst hx; exact of_decide_eq_true ha
      | succ k => exact ih (k := k) (by simpa using h) (by simpa using hx)
    · simp at h
theorem plE_end {es : List Ed} {e x : Ed} (hx : es[plE es e]? = some x) : ¬ ltE x e := by
  unfold plE at hx
  induction es with
  | nil => simp at hx
  | cons a l ih =>
    rw [List.takeWhile_cons] at hx
    split at hx
    · exact ih (by simpa using hx)
    · rename_i ha
      simp at hx
      subst hx
      exact fun q => ha (decide_eq_true q)
theorem insE_pl (es : List Ed) (e : Ed) : insE es e = if es[plE es e]? = some e then es else es.take (plE es e) ++ e :: es.drop (plE es e) := rfl
set_option linter.unusedSimpArgs false in
set_option maxRecDepth 100000 in
set_option maxHeartbeats 3200000 in
theorem rNew_any {w : World} {nodes : Int} {v : Value} {l : List (Int × Int)} (h : RowK kE w v l) (hl : l.length ≤ 1000000) : Calls Try.prog 22 #[.int .i64 nodes, v] w (RNewPost w nodes l) := by
  obtain ⟨av, cv, rfl, -⟩ := h.form
  have H := Lib.hid h
  clear h
  go_enter Try.func22, Try.ntmps22
  go_upto_region 1 with fail
  obtain ⟨x1, hx1⟩ : ∃ x1, w.alloc (.cells #[.int .i64 0, .slice none 0 0] 27) = x1 := ⟨_, rfl⟩
  have B1 : Hid (Below w.heap.size w x1) := by rw [← hx1]; exact (Below.refl _ _).alloc (Nat.le_refl _) _
  have R1 : Hid (RowIs x1 w.heap.size 27 [.int .i64 0, .slice none 0 0]) := by rw [← hx1]; exact new_row _ _ _
  have Z1 : Hid (x1.heap.size = w.heap.size + 1) := by rw [← hx1]; exact World.size_alloc ..
  rw [hx1]
  clear hx1
  obtain ⟨s, hs⟩ : ∃ s, w.heap.size = s := ⟨_, rfl⟩
  have Hs := Lib.hid hs
  rw [hs] at R1 Z1 ⊢
  clear hs
  have hc1 := R1.out.cell (i := 0) rfl
  have hc2 := R1.out.cell (i := 1) rfl
  have hf1 := RowIs.free R1.out 0
  have hf2 := RowIs.free R1.out 1
  have HE : Hid (∀ c, c = 0 ∨ True → Below w.heap.size w ((x1.setCell ⟨s, 0, none⟩ (.int .i64 0)).setCell ⟨s, 1, none⟩ (.slice none 0 0)) ∧ RowIs ((x1.setCell ⟨s, 0, none⟩ (.int .i64 0)).setCell ⟨s, 1, none⟩ (.slice none 0 0)) s 27 [.int .i64 0, .slice none 0 0]) :=
    fun _ _ => ⟨(B1.out.setCell (p := ⟨s, 0, none⟩) (Nat.le_of_eq Hs.out) _).setCell (p := ⟨s, 1, none⟩) (Nat.le_of_eq Hs.out) _, RowIs.set (RowIs.set R1.out 0 _) 1 _⟩
  by_cases hn : nodes < 0
  · have Hn := Lib.hid hn
    go_wp2
    refine bodyPost_ret (v := rErr 2) (results_g2 rfl _ _ s (by rfl) (by rfl) (HE.out 0 (.inl rfl)).2) rfl ?_
    exact ⟨(HE.out 0 (.inl rfl)).1, .inl ⟨.inl Hn.out, rfl⟩⟩
  by_cases hn2 : 4096 < nodes
  · have Hn := Lib.hid hn2
    go_wp2
    refine bodyPost_ret (v := rErr 2) (results_g2 rfl _ _ s (by rfl) (by rfl) (HE.out 0 (.inl rfl)).2) rfl ?_
    exact ⟨(HE.out 0 (.inl rfl)).1, .inl ⟨.inr Hn.out, rfl⟩⟩
  obtain ⟨n, rfl⟩ := Int.eq_ofNat_of_zero_le (by omega : 0 ≤ nodes)
  by_cases hlm : 65536 < l.length
  · have hlm2 : (65536 : Int) < (l.length : Int) := by omega
    have Hlm : Hid ((0 ≤ (n : Int) ∧ (n : Int) ≤ 4096) ∧ 65536 < l.length) := ⟨⟨by omega, by omega⟩, hlm⟩
    clear hlm
    go_wp2
    refine bodyPost_ret (v := rErr 9) (results_g2 rfl _ _ s (by rfl) (by rfl) (HE.out 0 (.inl rfl)).2) rfl ?_
    exact ⟨(HE.out 0 (.inl rfl)).1, .inr (.inl ⟨Hlm.out.1, Hlm.out.2, rfl⟩)⟩
  have hlm2 : ¬ (65536 : Int) < (l.length : Int) := by omega
  have Hn : Hid (n ≤ 4096 ∧ l.length ≤ 65536) := ⟨by omega, by omega⟩
  clear hlm HE
  go_upto_region 6 with fail
  obtain ⟨x2, hx2⟩ : ∃ x2, x1.alloc (.cells #[.int .i64 (n : Int), .slice none 0 0] 27) = x2 := ⟨_, rfl⟩
  have H0 : Hid (RnAt w x2 s n (.slice none 0 0) (refNew ((l.take 0).map toEd))) := by
    have b2 : Below x1.heap.size x1 x2 := by rw [← hx2]; exact (Below.refl _ _).alloc (Nat.le_refl _) _
    refine ⟨B1.out.trans (b2.mono B1.out.size), R1.out.later b2, ?_, OwnK.nil _ _, fun _ => rfl, Nat.le_of_eq Hs.out⟩
    rw [← hx2, ← Z1.out]; exact new_row _ _ _
  simp only [Z1.out]
  rw [hx2]
  clear hx2 hc1 hc2 hf1 hf2 R1 B1 hn hn2 Z1 hlm2
  go_wp2
  go_loopg [7] l.length (fun gk iv wr => ∃ i : Nat, Hid (i + gk = l.length) ∧ iv = .int .i64 i ∧ ∃ gv, Hid (RnAt w wr s n gv (refNew ((l.take i).map toEd))) ∧ Hid (∀ j e, j < i → l[j]? = some e → goodE n e))
  case atStart => exact ⟨0, Nat.zero_add _, rfl, _, H0, fun j e hj => absurd hj (by omega)⟩
  case round =>
    clear H0
    obtain ⟨i, Hi, rfl, gv, HR, HA⟩ := hrel
    by_cases hlt : i < l.length
    · obtain ⟨⟨x, y⟩, hx⟩ : ∃ e, l[i]? = some e := ⟨_, List.getElem?_eq_getElem hlt⟩
      obtain ⟨g, off, c, hv, p1, p2⟩ := H.out.pair hx
      obtain ⟨rfl, rfl⟩ : av = some ⟨g, off, none⟩ ∧ cv = c := by simpa using hv
      have Hca : Hid (w.cell? ⟨g, off + i * 2, none⟩ = some (.int .i64 x) ∧ w.cell? ⟨g, off + i * 2 + 1, none⟩ = some (.int .i64 y)) := ⟨p1, p2⟩
      have d1 := cellL p1 HR.out.low
      have d2 := cellL p2 HR.out.low
      have hii : (i : Int) < (l.length : Int) := by omega
      have his : i ≤ 65536 := by have := Hn.out.2; omega
      have Hlt := Lib.hid hlt
      have Hx := Lib.hid hx
      clear hv p1 p2 hx hlt
      by_cases hgd : goodE n (x, y)
      · obtain ⟨wo, hwo⟩ : ∃ x, x = wr := ⟨_, rfl⟩
        subst hwo
        have hx0 : ¬ x < 0 := by have := hgd.1.1; dsimp only at this; omega
        have hxn : ¬ (n : Int) ≤ x := by have := hgd.1.2; dsimp only at this; omega
        have hy0 : ¬ y < 0 := by have := hgd.2.1; dsimp only at this; omega
        have hyn : ¬ (n : Int) ≤ y := by have := hgd.2.2; dsimp only at this; omega
        have Hgd := Lib.hid hgd
        have hst : refNew ((l.take (i + 1)).map toEd) = insE (refNew ((l.take i).map toEd)) (toEd (x, y)) := by
          rw [List.take_add_one, Hx.out, List.map_append]
          exact refNew_snoc _ _
        have hel : (refNew ((l.take i).map toEd)).length ≤ 65536 := by
          have h1 := refNew_len ((l.take i).map toEd)
          rw [List.length_map, List.length_take] at h1
          have := Hn.out.2; omega
        have HA2 : Hid (∀ j e, j < i + 1 → l[j]? = some e → goodE n e) := fun j e hj he => by
          rcases (by omega : j < i ∨ j = i) with q | q
          · exact HA.out j e q he
          · rw [q, Hx.out] at he; rw [← Option.some.inj he]; exact Hgd.out
        obtain ⟨es, hes⟩ : ∃ es, refNew ((l.take i).map toEd) = es := ⟨_, rfl⟩
        rw [hes] at HR hst hel
        have Hst := Lib.hid hst
        have Hel := Lib.hid hel
        have hofe : ofEd (toEd (x, y)) = (x, y) := ofEd_toEd hgd
        have Hofe := Lib.hid hofe
        obtain ⟨e, he⟩ : ∃ e, toEd (x, y) = e := ⟨_, rfl⟩
        rw [he] at Hst Hofe
        have hst : refNew ((l.take (i + 1)).map toEd) = insE es e := Hst.out
        clear hes hel hgd HA hofe he hst
        have hc1 := HR.out.box.cell (i := 1) rfl
        have HR0 := HR
        have hKl := plE_le es e
        obtain ⟨K, hK⟩ : ∃ K, plE es e = K := ⟨_, rfl⟩
        have HK := Lib.hid hK
        rw [hK] at hKl
        have HKl := Lib.hid hKl
        clear hK hKl
        go_upto_block 2 with fail
        go_cut [8] from 62 to 80 (fun iv wx => iv = .int .i64 (K : Int) ∧ Hid (Below wo.heap.size wo wx))
        case first =>
          go_wp2
          go_loopg [8] K (fun gk kv wr => ∃ k : Nat, Hid (k + gk = K) ∧ kv = .int .i64 k ∧ Hid (Below wo.heap.size wo wr))
          case atStart => exact ⟨0, Nat.zero_add _, rfl, Below.refl _ _⟩
          case round =>
            obtain ⟨k, Hk, rfl, HB⟩ := hrel
            have HRk := Lib.hid (HR0.out.later HB.out)
            obtain ⟨agv, gc, hgv, -⟩ := HRk.out.own.row.form
            rw [List.length_map] at hgv
            subst hgv
            have c1 := HRk.out.box.cell (i := 1) rfl
            have d1 := cellL d1 HB.out
            have d2 := cellL d2 HB.out
            by_cases hkl : k < es.length
            · obtain ⟨⟨p, q⟩, hpq⟩ : ∃ e, es[k]? = some e := ⟨_, List.getElem?_eq_getElem hkl⟩
              obtain ⟨ga, oa, gc2, hv2, f1, f2⟩ := HRk.out.own.row.pair (i := k) (x := (p : Int)) (y := (q : Int)) (by rw [List.getElem?_map, hpq]; rfl)
              obtain ⟨rfl, rfl⟩ : agv = some ⟨ga, oa, none⟩ ∧ gc = gc2 := by simpa using hv2
              have hki : (k : Int) < (es.length : Int) := by omega
              have hks : k ≤ 65536 := by have := Hel.out; omega
              have hd : decide (k < es.length) = true := decide_eq_true hkl
              have hbf : befB ((p : Int), (q : Int)) (x, y) = decide (ltE (p, q) e) := by rw [← Hofe.out]; exact befB_ed (p, q) e
              have Hbf := Lib.hid hbf
              have Hpq := Lib.hid hpq
              have Hkl := Lib.hid hkl
              clear hv2 hpq hbf hki
              go_upto_region 12 with fail
              refine wp_region_held_drew (S := (fun W => (W.cell? ⟨s + 1, 1, none⟩ = some (.slice (some ⟨ga, oa, none⟩) es.length gc) ∧ (W.cell? ⟨g, off + i * 2, none⟩ = some (.int .i64 x) ∧ W.cell? ⟨g, off + i * 2 + 1, none⟩ = some (.int .i64 y)) ∧ W.cell? ⟨ga, oa + k * 2, none⟩ = some (.int .i64 (p : Int)) ∧ W.cell? ⟨ga, oa + k * 2 + 1, none⟩ = some (.int .i64 (q : Int))))) (by kernel_rfl) (⟨c1, ⟨d1, d2⟩, f1, f2⟩) (fun hH0 => ?_)
              have B0 : Hid (Below wo.heap.size wo wr.drew) := HB.out.drew
              obtain ⟨wc0, hwc0⟩ : ∃ yw, wr.drew = yw := ⟨_, rfl⟩
              rw [hwc0] at B0 hH0 ⊢
              clear hwc0
              refine wpAnyH_take (i := 0) (v := ?_) rfl (by kernel_rfl) (by kernel_rfl) (by kernel_rfl) (fun _ _ _ h => h) (Or.inl ⟨by rfl, ?_⟩) (by assumption) ?_
              rotate_left
              · (intro wx hSw; (try dsimp only at hSw); go_simp <;> with_reducible rfl)
              try simp only [Act.put, List.setIfInBounds_toArray, List.set_cons_zero, List.set_cons_succ, List.getElem_toArray, List.getElem_cons_zero, List.getElem_cons_succ]
              refine wpAnyH_take (i := 1) (v := ?_) rfl (by kernel_rfl) (by kernel_rfl) (by kernel_rfl) (fun _ _ _ h => h) (Or.inl ⟨by rfl, ?_⟩) (by assumption) ?_
              rotate_left
              · (intro wx hSw; (try dsimp only at hSw); go_simp <;> with_reducible rfl)
              try simp only [Act.put, List.setIfInBounds_toArray, List.set_cons_zero, List.set_cons_succ, List.getElem_toArray, List.getElem_cons_zero, List.getElem_cons_succ]
              refine wpAnyH_take (i := 2) (v := ?_) rfl (by kernel_rfl) (by kernel_rfl) (by kernel_rfl) (fun _ _ _ h => h) (Or.inl ⟨by rfl, ?_⟩) (by assumption) ?_
              rotate_left
              · (intro wx hSw; (try dsimp only at hSw); go_simp <;> with_reducible rfl)
              try simp only [Act.put, List.setIfInBounds_toArray, List.set_cons_zero, List.set_cons_succ, List.getElem_toArray, List.getElem_cons_zero, List.getElem_cons_succ]
              refine wpAnyH_take (i := 3) (v := ?_) rfl (by kernel_rfl) (by kernel_rfl) (by kernel_rfl) (fun _ _ _ h => h) (Or.inl ⟨by rfl, ?_⟩) (by assumption) ?_
              rotate_left
              · (intro wx hSw; (try dsimp only at hSw); go_simp <;> with_reducible rfl)
              try simp only [Act.put, List.setIfInBounds_toArray, List.set_cons_zero, List.set_cons_succ, List.getElem_toArray, List.getElem_cons_zero, List.getElem_cons_succ]
              refine wpAnyH_take (i := 4) (v := ?_) rfl (by kernel_rfl) (by kernel_rfl) (by kernel_rfl) (fun _ _ _ h => h) (Or.inl ⟨by rfl, ?_⟩) (by assumption) ?_
              rotate_left
              · (intro wx hSw; (try dsimp only at hSw); go_simp <;> with_reducible rfl)
              try simp only [Act.put, List.setIfInBounds_toArray, List.set_cons_zero, List.set_cons_succ, List.getElem_toArray, List.getElem_cons_zero, List.getElem_cons_succ]
              try rw [hd]
              refine wpAnyH_take (i := 5) (v := ?_) rfl (by kernel_rfl) (by kernel_rfl) (by kernel_rfl) (fun _ _ _ h => h) (Or.inl ⟨by rfl, ?_⟩) (by assumption) ?_
              rotate_left
              · (intro wx hSw; (try dsimp only at hSw); go_simp <;> with_reducible rfl)
              try simp only [Act.put, List.setIfInBounds_toArray, List.set_cons_zero, List.set_cons_succ, List.getElem_toArray, List.getElem_cons_zero, List.getElem_cons_succ]
              refine wpAnyH_take (i := 6) (v := ?_) rfl (by kernel_rfl) (by kernel_rfl) (by kernel_rfl) (fun _ _ _ h => h) (Or.inl ⟨by rfl, ?_⟩) (by assumption) ?_
              rotate_left
              · (intro wx hSw; (try dsimp only at hSw); go_simp <;> with_reducible rfl)
              try simp only [Act.put, List.setIfInBounds_toArray, List.set_cons_zero, List.set_cons_succ, List.getElem_toArray, List.getElem_cons_zero, List.getElem_cons_succ]
              refine wpAnyH_take (i := 7) (v := ?_) rfl (by kernel_rfl) (by kernel_rfl) (by kernel_rfl) (fun _ _ _ h => h) (Or.inl ⟨by rfl, ?_⟩) (by assumption) ?_
              rotate_left
              · (intro wx hSw; (try dsimp only at hSw); go_simp <;> with_reducible rfl)
              try simp only [Act.put, List.setIfInBounds_toArray, List.set_cons_zero, List.set_cons_succ, List.getElem_toArray, List.getElem_cons_zero, List.getElem_cons_succ]
              refine wpAnyH_take (i := 8) (v := ?_) rfl (by kernel_rfl) (by kernel_rfl) (by kernel_rfl) (fun _ _ _ h => h) (Or.inl ⟨by rfl, ?_⟩) (by assumption) ?_
              rotate_left
              · (intro wx hSw; (try dsimp only at hSw); go_simp <;> with_reducible rfl)
              try simp only [Act.put, List.setIfInBounds_toArray, List.set_cons_zero, List.set_cons_succ, List.getElem_toArray, List.getElem_cons_zero, List.getElem_cons_succ]
              refine wpAnyH_take (i := 9) (v := ?_) rfl (by kernel_rfl) (by kernel_rfl) (by kernel_rfl) (fun _ _ _ h => h) (Or.inl ⟨by rfl, ?_⟩) (by assumption) ?_
              rotate_left
              · (intro wx hSw; (try dsimp only at hSw); go_simp <;> with_reducible rfl)
              try simp only [Act.put, List.setIfInBounds_toArray, List.set_cons_zero, List.set_cons_succ, List.getElem_toArray, List.getElem_cons_zero, List.getElem_cons_succ]
              refine wpAnyH_take (i := 10) (v := ?_) rfl (by kernel_rfl) (by kernel_rfl) (by kernel_rfl) (fun _ _ _ h => h) (Or.inl ⟨by rfl, ?_⟩) (by assumption) ?_
              rotate_left
              · (intro wx hSw; (try dsimp only at hSw); go_simp <;> with_reducible rfl)
              try simp only [Act.put, List.setIfInBounds_toArray, List.set_cons_zero, List.set_cons_succ, List.getElem_toArray, List.getElem_cons_zero, List.getElem_cons_succ]
              refine wpAnyH_take (i := 11) (v := ?_) rfl (by kernel_rfl) (by kernel_rfl) (by kernel_rfl) (fun _ _ _ h => h) (Or.inl ⟨by rfl, ?_⟩) (by assumption) ?_
              rotate_left
              · (intro wx hSw; (try dsimp only at hSw); go_simp <;> with_reducible rfl)
              try simp only [Act.put, List.setIfInBounds_toArray, List.set_cons_zero, List.set_cons_succ, List.getElem_toArray, List.getElem_cons_zero, List.getElem_cons_succ]
              refine wpAnyH_take (i := 12) (v := ?_) rfl (by kernel_rfl) (by kernel_rfl) (by kernel_rfl) (fun _ _ _ h => h) (Or.inl ⟨by rfl, ?_⟩) (by assumption) ?_
              rotate_left
              · (intro wx hSw; (try dsimp only at hSw); go_simp <;> with_reducible rfl)
              try simp only [Act.put, List.setIfInBounds_toArray, List.set_cons_zero, List.set_cons_succ, List.getElem_toArray, List.getElem_cons_zero, List.getElem_cons_succ]
              refine wpAnyH_take (i := 13) (v := ?_) rfl (by kernel_rfl) (by kernel_rfl) (by kernel_rfl) (fun _ _ _ h => h) (Or.inl ⟨by rfl, ?_⟩) (by assumption) ?_
              rotate_left
              · (intro wx hSw; (try dsimp only at hSw); go_simp <;> with_reducible rfl)
              try simp only [Act.put, List.setIfInBounds_toArray, List.set_cons_zero, List.set_cons_succ, List.getElem_toArray, List.getElem_cons_zero, List.getElem_cons_succ]
              refine wpAnyH_take (i := 14) (v := ?_) rfl (by kernel_rfl) (by kernel_rfl) (by kernel_rfl) (fun _ _ _ h => h) (Or.inl ⟨by rfl, ?_⟩) (by assumption) ?_
              rotate_left
              · (intro wx hSw; (try dsimp only at hSw); go_simp <;> with_reducible rfl)
              try simp only [Act.put, List.setIfInBounds_toArray, List.set_cons_zero, List.set_cons_succ, List.getElem_toArray, List.getElem_cons_zero, List.getElem_cons_succ]
              refine wpAnyH_ready (rs := [15]) (by kernel_rfl) (by simp) ?_
              refine AllReadyH.cons rfl (fun K hK => ?_) AllReadyH.nil
              go_simp
              go_at_call 49
              with_reducible refine (before_any ((p : Int), (q : Int)) (x, y) _).mono ?_
              rintro r y1 ⟨rfl, hb⟩
              have HB1 : Hid (Below wo.heap.size wo y1) := B0.out.trans (hb.mono B0.out.size)
              go_wp2_with fail
              refine hK.out _ _ (⟨cellL hH0.1 hb, ⟨cellL hH0.2.1.1 hb, cellL hH0.2.1.2 hb⟩, cellL hH0.2.2.1 hb, cellL hH0.2.2.2 hb⟩) (fun hH1 => ?_)
              clear hK K hH0
              try simp only [Act.put, List.setIfInBounds_toArray, List.set_cons_zero, List.set_cons_succ, List.getElem_toArray, List.getElem_cons_zero, List.getElem_cons_succ]
              clear hb
              refine wpAnyH_take (i := 16) (v := ?_) rfl (by kernel_rfl) (by kernel_rfl) (by kernel_rfl) (fun _ _ _ h => h) (Or.inl ⟨by rfl, ?_⟩) (by assumption) ?_
              rotate_left
              · (intro wx hSw; (try dsimp only at hSw); go_simp <;> with_reducible rfl)
              try simp only [Act.put, List.setIfInBounds_toArray, List.set_cons_zero, List.set_cons_succ, List.getElem_toArray, List.getElem_cons_zero, List.getElem_cons_succ]
              refine wpAnyH_done (by kernel_rfl) ?_ _
              rw [Hbf.out]
              by_cases hkK : k < K
              · have hdl : decide (ltE (p, q) e) = true := decide_eq_true (plE_lt (by rw [HK.out]; exact hkK) Hpq.out)
                rw [hdl]
                have HkK := Lib.hid hkK
                clear hdl hkK
                go_wp2
                go_roundg (K - (k + 1))
                case measure => have := Hk.out; have := HkK.out; omega
                case rel => exact ⟨k + 1, by have := Hk.out; have := HkK.out; show _ = _; omega, by go_num, HB1⟩
              · obtain rfl : k = K := by have := Hk.out; omega
                have hdl : decide (ltE (p, q) e) = false := decide_eq_false (plE_end (es := es) (by rw [HK.out]; exact Hpq.out))
                rw [hdl]
                clear hdl hkK
                go_wp2
                go_meet
                exact ⟨rfl, HB1⟩
            · obtain rfl : k = K := by have := Hk.out; have := HKl.out; omega
              have hki : ¬ (k : Int) < (es.length : Int) := by omega
              have hd : decide (k < es.length) = false := decide_eq_false hkl
              clear hkl hki
              go_upto_region 12 with fail
              refine wp_region_held_drew (S := (fun W => W.cell? ⟨s + 1, 1, none⟩ = some (.slice agv es.length gc))) (by kernel_rfl) (c1) (fun hHF0 => ?_)
              refine wpAnyH_take (i := 0) (v := ?_) rfl (by kernel_rfl) (by kernel_rfl) (by kernel_rfl) (fun _ _ _ h => h) (Or.inl ⟨by rfl, ?_⟩) (by assumption) ?_
              rotate_left
              · (intro wx hSw; (try dsimp only at hSw); go_simp <;> with_reducible rfl)
              try simp only [Act.put, List.setIfInBounds_toArray, List.set_cons_zero, List.set_cons_succ, List.getElem_toArray, List.getElem_cons_zero, List.getElem_cons_succ]
              refine wpAnyH_take (i := 1) (v := ?_) rfl (by kernel_rfl) (by kernel_rfl) (by kernel_rfl) (fun _ _ _ h => h) (Or.inl ⟨by rfl, ?_⟩) (by assumption) ?_
              rotate_left
              · (intro wx hSw; (try dsimp only at hSw); go_simp <;> with_reducible rfl)
              try simp only [Act.put, List.setIfInBounds_toArray, List.set_cons_zero, List.set_cons_succ, List.getElem_toArray, List.getElem_cons_zero, List.getElem_cons_succ]
              refine wpAnyH_take (i := 2) (v := ?_) rfl (by kernel_rfl) (by kernel_rfl) (by kernel_rfl) (fun _ _ _ h => h) (Or.inl ⟨by rfl, ?_⟩) (by assumption) ?_
              rotate_left
              · (intro wx hSw; (try dsimp only at hSw); go_simp <;> with_reducible rfl)
              try simp only [Act.put, List.setIfInBounds_toArray, List.set_cons_zero, List.set_cons_succ, List.getElem_toArray, List.getElem_cons_zero, List.getElem_cons_succ]
              refine wpAnyH_take (i := 3) (v := ?_) rfl (by kernel_rfl) (by kernel_rfl) (by kernel_rfl) (fun _ _ _ h => h) (Or.inl ⟨by rfl, ?_⟩) (by assumption) ?_
              rotate_left
              · (intro wx hSw; (try dsimp only at hSw); go_simp <;> with_reducible rfl)
              try simp only [Act.put, List.setIfInBounds_toArray, List.set_cons_zero, List.set_cons_succ, List.getElem_toArray, List.getElem_cons_zero, List.getElem_cons_succ]
              refine wpAnyH_take (i := 4) (v := ?_) rfl (by kernel_rfl) (by kernel_rfl) (by kernel_rfl) (fun _ _ _ h => h) (Or.inl ⟨by rfl, ?_⟩) (by assumption) ?_
              rotate_left
              · (intro wx hSw; (try dsimp only at hSw); go_simp <;> with_reducible rfl)
              try simp only [Act.put, List.setIfInBounds_toArray, List.set_cons_zero, List.set_cons_succ, List.getElem_toArray, List.getElem_cons_zero, List.getElem_cons_succ]
              refine wpAnyH_take (i := 5) (v := ?_) rfl (by kernel_rfl) (by kernel_rfl) (by kernel_rfl) (fun _ _ _ h => h) (Or.inl ⟨by rfl, ?_⟩) (by assumption) ?_
              rotate_left
              · (intro wx hSw; (try dsimp only at hSw); go_simp <;> with_reducible rfl)
              try simp only [Act.put, List.setIfInBounds_toArray, List.set_cons_zero, List.set_cons_succ, List.getElem_toArray, List.getElem_cons_zero, List.getElem_cons_succ]
              refine wpAnyH_take (i := 6) (v := undef) rfl (by kernel_rfl) (by kernel_rfl) (by kernel_rfl) (fun _ _ _ h => h) (Or.inr ⟨by simp [Region.wanted, yielded, undef], rfl⟩) (by assumption) ?_
              try simp only [Act.put, List.setIfInBounds_toArray, List.set_cons_zero, List.set_cons_succ, List.getElem_toArray, List.getElem_cons_zero, List.getElem_cons_succ]
              refine wpAnyH_take (i := 7) (v := undef) rfl (by kernel_rfl) (by kernel_rfl) (by kernel_rfl) (fun _ _ _ h => h) (Or.inr ⟨by simp [Region.wanted, yielded, undef], rfl⟩) (by assumption) ?_
              try simp only [Act.put, List.setIfInBounds_toArray, List.set_cons_zero, List.set_cons_succ, List.getElem_toArray, List.getElem_cons_zero, List.getElem_cons_succ]
              refine wpAnyH_take (i := 8) (v := undef) rfl (by kernel_rfl) (by kernel_rfl) (by kernel_rfl) (fun _ _ _ h => h) (Or.inr ⟨by simp [Region.wanted, yielded, undef], rfl⟩) (by assumption) ?_
              try simp only [Act.put, List.setIfInBounds_toArray, List.set_cons_zero, List.set_cons_succ, List.getElem_toArray, List.getElem_cons_zero, List.getElem_cons_succ]
              refine wpAnyH_take (i := 9) (v := undef) rfl (by kernel_rfl) (by kernel_rfl) (by kernel_rfl) (fun _ _ _ h => h) (Or.inr ⟨by simp [Region.wanted, yielded, undef], rfl⟩) (by assumption) ?_
              try simp only [Act.put, List.setIfInBounds_toArray, List.set_cons_zero, List.set_cons_succ, List.getElem_toArray, List.getElem_cons_zero, List.getElem_cons_succ]
              refine wpAnyH_take (i := 10) (v := undef) rfl (by kernel_rfl) (by kernel_rfl) (by kernel_rfl) (fun _ _ _ h => h) (Or.inr ⟨by simp [Region.wanted, yielded, undef], rfl⟩) (by assumption) ?_
              try simp only [Act.put, List.setIfInBounds_toArray, List.set_cons_zero, List.set_cons_succ, List.getElem_toArray, List.getElem_cons_zero, List.getElem_cons_succ]
              refine wpAnyH_take (i := 11) (v := undef) rfl (by kernel_rfl) (by kernel_rfl) (by kernel_rfl) (fun _ _ _ h => h) (Or.inr ⟨by simp [Region.wanted, yielded, undef], rfl⟩) (by assumption) ?_
              try simp only [Act.put, List.setIfInBounds_toArray, List.set_cons_zero, List.set_cons_succ, List.getElem_toArray, List.getElem_cons_zero, List.getElem_cons_succ]
              refine wpAnyH_take (i := 12) (v := undef) rfl (by kernel_rfl) (by kernel_rfl) (by kernel_rfl) (fun _ _ _ h => h) (Or.inr ⟨by simp [Region.wanted, yielded, undef], rfl⟩) (by assumption) ?_
              try simp only [Act.put, List.setIfInBounds_toArray, List.set_cons_zero, List.set_cons_succ, List.getElem_toArray, List.getElem_cons_zero, List.getElem_cons_succ]
              refine wpAnyH_take (i := 13) (v := undef) rfl (by kernel_rfl) (by kernel_rfl) (by kernel_rfl) (fun _ _ _ h => h) (Or.inr ⟨by simp [Region.wanted, yielded, undef], rfl⟩) (by assumption) ?_
              try simp only [Act.put, List.setIfInBounds_toArray, List.set_cons_zero, List.set_cons_succ, List.getElem_toArray, List.getElem_cons_zero, List.getElem_cons_succ]
              refine wpAnyH_take (i := 14) (v := undef) rfl (by kernel_rfl) (by kernel_rfl) (by kernel_rfl) (fun _ _ _ h => h) (Or.inr ⟨by simp [Region.wanted, yielded, undef], rfl⟩) (by assumption) ?_
              try simp only [Act.put, List.setIfInBounds_toArray, List.set_cons_zero, List.set_cons_succ, List.getElem_toArray, List.getElem_cons_zero, List.getElem_cons_succ]
              refine wpAnyH_take (i := 15) (v := undef) rfl (by kernel_rfl) (by kernel_rfl) (by kernel_rfl) (fun _ _ _ h => h) (Or.inr ⟨by simp [Region.wanted, yielded, undef], rfl⟩) (by assumption) ?_
              try simp only [Act.put, List.setIfInBounds_toArray, List.set_cons_zero, List.set_cons_succ, List.getElem_toArray, List.getElem_cons_zero, List.getElem_cons_succ]
              refine wpAnyH_take (i := 16) (v := ?_) rfl (by kernel_rfl) (by kernel_rfl) (by kernel_rfl) (fun _ _ _ h => h) (Or.inl ⟨by rfl, ?_⟩) (by assumption) ?_
              rotate_left
              · (intro wx hSw; (try dsimp only at hSw); go_simp <;> with_reducible rfl)
              try simp only [Act.put, List.setIfInBounds_toArray, List.set_cons_zero, List.set_cons_succ, List.getElem_toArray, List.getElem_cons_zero, List.getElem_cons_succ]
              refine wpAnyH_done (by kernel_rfl) ?_ _
              go_wp2
              go_meet
              exact ⟨rfl, HB.out.drew⟩
        case rest =>
          obtain ⟨rfl, HBc⟩ := hcut
          obtain ⟨wb, hwb⟩ : ∃ x, x = wc := ⟨_, rfl⟩
          subst hwb
          have HRc := Lib.hid (HR0.out.later HBc.out)
          have d1 := cellL d1 HBc.out
          have d2 := cellL d2 HBc.out
          clear HR HR0 hc1
          go_upto_region 14 with fail
          go_cut [97] from 81 to 97 (fun bv wx => bv = .bool (decide (es[K]? = some e)) ∧ Hid (Below wb.heap.size wb wx))
          case first =>
            obtain ⟨agv, gc, hgv, -⟩ := HRc.out.own.row.form
            rw [List.length_map] at hgv
            subst hgv
            have c1 := HRc.out.box.cell (i := 1) rfl
            by_cases hkl : K < es.length
            · obtain ⟨⟨p, q⟩, hpq⟩ : ∃ e, es[K]? = some e := ⟨_, List.getElem?_eq_getElem hkl⟩
              obtain ⟨ga, oa, gc2, hv2, f1, f2⟩ := HRc.out.own.row.pair (i := K) (x := (p : Int)) (y := (q : Int)) (by rw [List.getElem?_map, hpq]; rfl)
              obtain ⟨rfl, rfl⟩ : agv = some ⟨ga, oa, none⟩ ∧ gc = gc2 := by simpa using hv2
              have hki : (K : Int) < (es.length : Int) := by omega
              have hks : K ≤ 65536 := by have := Hel.out; omega
              have hd : decide (K < es.length) = true := decide_eq_true hkl
              have hq : Hid (eqE ((p : Int), (q : Int)) (x, y) = decide (es[K]? = some e)) := by
                show _ = _
                rw [hpq, ← Hofe.out]
                unfold eqE
                rw [Bool.eq_iff_iff, decide_eq_true_iff, decide_eq_true_iff]
                exact ⟨fun h => congrArg some (ofEd_inj _ _ h), fun h => congrArg ofEd (Option.some.inj h)⟩
              clear hv2 hpq
              refine wp_region_held_drew (S := (fun W => (W.cell? ⟨s + 1, 1, none⟩ = some (.slice (some ⟨ga, oa, none⟩) es.length gc) ∧ (W.cell? ⟨g, off + i * 2, none⟩ = some (.int .i64 x) ∧ W.cell? ⟨g, off + i * 2 + 1, none⟩ = some (.int .i64 y)) ∧ W.cell? ⟨ga, oa + K * 2, none⟩ = some (.int .i64 (p : Int)) ∧ W.cell? ⟨ga, oa + K * 2 + 1, none⟩ = some (.int .i64 (q : Int))))) (by kernel_rfl) (⟨c1, ⟨d1, d2⟩, f1, f2⟩) (fun hHT0 => ?_)
              refine wpAnyH_take (i := 0) (v := ?_) rfl (by kernel_rfl) (by kernel_rfl) (by kernel_rfl) (fun _ _ _ h => h) (Or.inl ⟨by rfl, ?_⟩) (by assumption) ?_
              rotate_left
              · (intro wx hSw; (try dsimp only at hSw); go_simp <;> with_reducible rfl)
              try simp only [Act.put, List.setIfInBounds_toArray, List.set_cons_zero, List.set_cons_succ, List.getElem_toArray, List.getElem_cons_zero, List.getElem_cons_succ]
              refine wpAnyH_take (i := 1) (v := ?_) rfl (by kernel_rfl) (by kernel_rfl) (by kernel_rfl) (fun _ _ _ h => h) (Or.inl ⟨by rfl, ?_⟩) (by assumption) ?_
              rotate_left
              · (intro wx hSw; (try dsimp only at hSw); go_simp <;> with_reducible rfl)
              try simp only [Act.put, List.setIfInBounds_toArray, List.set_cons_zero, List.set_cons_succ, List.getElem_toArray, List.getElem_cons_zero, List.getElem_cons_succ]
              refine wpAnyH_take (i := 2) (v := ?_) rfl (by kernel_rfl) (by kernel_rfl) (by kernel_rfl) (fun _ _ _ h => h) (Or.inl ⟨by rfl, ?_⟩) (by assumption) ?_
              rotate_left
              · (intro wx hSw; (try dsimp only at hSw); go_simp <;> with_reducible rfl)
              try simp only [Act.put, List.setIfInBounds_toArray, List.set_cons_zero, List.set_cons_succ, List.getElem_toArray, List.getElem_cons_zero, List.getElem_cons_succ]
              refine wpAnyH_take (i := 3) (v := ?_) rfl (by kernel_rfl) (by kernel_rfl) (by kernel_rfl) (fun _ _ _ h => h) (Or.inl ⟨by rfl, ?_⟩) (by assumption) ?_
              rotate_left
              · (intro wx hSw; (try dsimp only at hSw); go_simp <;> with_reducible rfl)
              try simp only [Act.put, List.setIfInBounds_toArray, List.set_cons_zero, List.set_cons_succ, List.getElem_toArray, List.getElem_cons_zero, List.getElem_cons_succ]
              refine wpAnyH_take (i := 4) (v := ?_) rfl (by kernel_rfl) (by kernel_rfl) (by kernel_rfl) (fun _ _ _ h => h) (Or.inl ⟨by rfl, ?_⟩) (by assumption) ?_
              rotate_left
              · (intro wx hSw; (try dsimp only at hSw); go_simp <;> with_reducible rfl)
              try simp only [Act.put, List.setIfInBounds_toArray, List.set_cons_zero, List.set_cons_succ, List.getElem_toArray, List.getElem_cons_zero, List.getElem_cons_succ]
              try rw [hd]
              refine wpAnyH_take (i := 5) (v := ?_) rfl (by kernel_rfl) (by kernel_rfl) (by kernel_rfl) (fun _ _ _ h => h) (Or.inl ⟨by rfl, ?_⟩) (by assumption) ?_
              rotate_left
              · (intro wx hSw; (try dsimp only at hSw); go_simp <;> with_reducible rfl)
              try simp only [Act.put, List.setIfInBounds_toArray, List.set_cons_zero, List.set_cons_succ, List.getElem_toArray, List.getElem_cons_zero, List.getElem_cons_succ]
              refine wpAnyH_take (i := 6) (v := ?_) rfl (by kernel_rfl) (by kernel_rfl) (by kernel_rfl) (fun _ _ _ h => h) (Or.inl ⟨by rfl, ?_⟩) (by assumption) ?_
              rotate_left
              · (intro wx hSw; (try dsimp only at hSw); go_simp <;> with_reducible rfl)
              try simp only [Act.put, List.setIfInBounds_toArray, List.set_cons_zero, List.set_cons_succ, List.getElem_toArray, List.getElem_cons_zero, List.getElem_cons_succ]
              refine wpAnyH_take (i := 7) (v := ?_) rfl (by kernel_rfl) (by kernel_rfl) (by kernel_rfl) (fun _ _ _ h => h) (Or.inl ⟨by rfl, ?_⟩) (by assumption) ?_
              rotate_left
              · (intro wx hSw; (try dsimp only at hSw); go_simp <;> with_reducible rfl)
              try simp only [Act.put, List.setIfInBounds_toArray, List.set_cons_zero, List.set_cons_succ, List.getElem_toArray, List.getElem_cons_zero, List.getElem_cons_succ]
              refine wpAnyH_take (i := 8) (v := ?_) rfl (by kernel_rfl) (by kernel_rfl) (by kernel_rfl) (fun _ _ _ h => h) (Or.inl ⟨by rfl, ?_⟩) (by assumption) ?_
              rotate_left
              · (intro wx hSw; (try dsimp only at hSw); go_simp <;> with_reducible rfl)
              try simp only [Act.put, List.setIfInBounds_toArray, List.set_cons_zero, List.set_cons_succ, List.getElem_toArray, List.getElem_cons_zero, List.getElem_cons_succ]
              refine wpAnyH_take (i := 9) (v := ?_) rfl (by kernel_rfl) (by kernel_rfl) (by kernel_rfl) (fun _ _ _ h => h) (Or.inl ⟨by rfl, ?_⟩) (by assumption) ?_
              rotate_left
              · (intro wx hSw; (try dsimp only at hSw); go_simp <;> with_reducible rfl)
              try simp only [Act.put, List.setIfInBounds_toArray, List.set_cons_zero, List.set_cons_succ, List.getElem_toArray, List.getElem_cons_zero, List.getElem_cons_succ]
              refine wpAnyH_take (i := 10) (v := ?_) rfl (by kernel_rfl) (by kernel_rfl) (by kernel_rfl) (fun _ _ _ h => h) (Or.inl ⟨by rfl, ?_⟩) (by assumption) ?_
              rotate_left
              · (intro wx hSw; (try dsimp only at hSw); go_simp <;> with_reducible rfl)
              try simp only [Act.put, List.setIfInBounds_toArray, List.set_cons_zero, List.set_cons_succ, List.getElem_toArray, List.getElem_cons_zero, List.getElem_cons_succ]
              refine wpAnyH_take (i := 11) (v := ?_) rfl (by kernel_rfl) (by kernel_rfl) (by kernel_rfl) (fun _ _ _ h => h) (Or.inl ⟨by rfl, ?_⟩) (by assumption) ?_
              rotate_left
              · (intro wx hSw; (try dsimp only at hSw); go_simp <;> with_reducible rfl)
              try simp only [Act.put, List.setIfInBounds_toArray, List.set_cons_zero, List.set_cons_succ, List.getElem_toArray, List.getElem_cons_zero, List.getElem_cons_succ]
              refine wpAnyH_take (i := 12) (v := ?_) rfl (by kernel_rfl) (by kernel_rfl) (by kernel_rfl) (fun _ _ _ h => h) (Or.inl ⟨by rfl, ?_⟩) (by assumption) ?_
              rotate_left
              · (intro wx hSw; (try dsimp only at hSw); go_simp <;> with_reducible rfl)
              try simp only [Act.put, List.setIfInBounds_toArray, List.set_cons_zero, List.set_cons_succ, List.getElem_toArray, List.getElem_cons_zero, List.getElem_cons_succ]
              refine wpAnyH_take (i := 13) (v := ?_) rfl (by kernel_rfl) (by kernel_rfl) (by kernel_rfl) (fun _ _ _ h => h) (Or.inl ⟨by rfl, ?_⟩) (by assumption) ?_
              rotate_left
              · (intro wx hSw; (try dsimp only at hSw); go_simp <;> with_reducible rfl)
              try simp only [Act.put, List.setIfInBounds_toArray, List.set_cons_zero, List.set_cons_succ, List.getElem_toArray, List.getElem_cons_zero, List.getElem_cons_succ]
              refine wpAnyH_take (i := 14) (v := ?_) rfl (by kernel_rfl) (by kernel_rfl) (by kernel_rfl) (fun _ _ _ h => h) (Or.inl ⟨by rfl, ?_⟩) (by assumption) ?_
              rotate_left
              · (intro wx hSw; (try dsimp only at hSw); go_simp <;> with_reducible rfl)
              try simp only [Act.put, List.setIfInBounds_toArray, List.set_cons_zero, List.set_cons_succ, List.getElem_toArray, List.getElem_cons_zero, List.getElem_cons_succ]
              refine wpAnyH_take (i := 15) (v := ?_) rfl (by kernel_rfl) (by kernel_rfl) (by kernel_rfl) (fun _ _ _ h => h) (Or.inl ⟨by rfl, ?_⟩) (by assumption) ?_
              rotate_left
              · (intro wx hSw; (try dsimp only at hSw); go_simp <;> with_reducible rfl)
              try simp only [Act.put, List.setIfInBounds_toArray, List.set_cons_zero, List.set_cons_succ, List.getElem_toArray, List.getElem_cons_zero, List.getElem_cons_succ]
              refine wpAnyH_take (i := 16) (v := ?_) rfl (by kernel_rfl) (by kernel_rfl) (by kernel_rfl) (fun _ _ _ h => h) (Or.inl ⟨by rfl, ?_⟩) (by assumption) ?_
              rotate_left
              · (intro wx hSw; (try dsimp only at hSw); go_simp <;> with_reducible rfl)
              try simp only [Act.put, List.setIfInBounds_toArray, List.set_cons_zero, List.set_cons_succ, List.getElem_toArray, List.getElem_cons_zero, List.getElem_cons_succ]
              refine wpAnyH_done (by kernel_rfl) ?_ _
              go_wp2
              go_meet
              exact ⟨by rw [hq.out], (Below.refl _ _).drew⟩
            · have hkn : es[K]? = none := List.getElem?_eq_none (by omega)
              have hd : decide (K < es.length) = false := decide_eq_false hkl
              have hq : Hid (decide (es[K]? = some e) = false) := decide_eq_false (by rw [hkn]; simp)
              clear hkn
              refine wp_region_held_drew (S := (fun W => W.cell? ⟨s + 1, 1, none⟩ = some (.slice agv es.length gc))) (by kernel_rfl) (c1) (fun hHF0 => ?_)
              refine wpAnyH_take (i := 0) (v := ?_) rfl (by kernel_rfl) (by kernel_rfl) (by kernel_rfl) (fun _ _ _ h => h) (Or.inl ⟨by rfl, ?_⟩) (by assumption) ?_
              rotate_left
              · (intro wx hSw; (try dsimp only at hSw); go_simp <;> with_reducible rfl)
              try simp only [Act.put, List.setIfInBounds_toArray, List.set_cons_zero, List.set_cons_succ, List.getElem_toArray, List.getElem_cons_zero, List.getElem_cons_succ]
              refine wpAnyH_take (i := 1) (v := ?_) rfl (by kernel_rfl) (by kernel_rfl) (by kernel_rfl) (fun _ _ _ h => h) (Or.inl ⟨by rfl, ?_⟩) (by assumption) ?_
              rotate_left
              · (intro wx hSw; (try dsimp only at hSw); go_simp <;> with_reducible rfl)
              try simp only [Act.put, List.setIfInBounds_toArray, List.set_cons_zero, List.set_cons_succ, List.getElem_toArray, List.getElem_cons_zero, List.getElem_cons_succ]
              refine wpAnyH_take (i := 2) (v := ?_) rfl (by kernel_rfl) (by kernel_rfl) (by kernel_rfl) (fun _ _ _ h => h) (Or.inl ⟨by rfl, ?_⟩) (by assumption) ?_
              rotate_left
              · (intro wx hSw; (try dsimp only at hSw); go_simp <;> with_reducible rfl)
              try simp only [Act.put, List.setIfInBounds_toArray, List.set_cons_zero, List.set_cons_succ, List.getElem_toArray, List.getElem_cons_zero, List.getElem_cons_succ]
              refine wpAnyH_take (i := 3) (v := ?_) rfl (by kernel_rfl) (by kernel_rfl) (by kernel_rfl) (fun _ _ _ h => h) (Or.inl ⟨by rfl, ?_⟩) (by assumption) ?_
              rotate_left
              · (intro wx hSw; (try dsimp only at hSw); go_simp <;> with_reducible rfl)
              try simp only [Act.put, List.setIfInBounds_toArray, List.set_cons_zero, List.set_cons_succ, List.getElem_toArray, List.getElem_cons_zero, List.getElem_cons_succ]
              refine wpAnyH_take (i := 4) (v := ?_) rfl (by kernel_rfl) (by kernel_rfl) (by kernel_rfl) (fun _ _ _ h => h) (Or.inl ⟨by rfl, ?_⟩) (by assumption) ?_
              rotate_left
              · (intro wx hSw; (try dsimp only at hSw); go_simp <;> with_reducible rfl)
              try simp only [Act.put, List.setIfInBounds_toArray, List.set_cons_zero, List.set_cons_succ, List.getElem_toArray, List.getElem_cons_zero, List.getElem_cons_succ]
              try rw [hd]
              refine wpAnyH_take (i := 5) (v := ?_) rfl (by kernel_rfl) (by kernel_rfl) (by kernel_rfl) (fun _ _ _ h => h) (Or.inl ⟨by rfl, ?_⟩) (by assumption) ?_
              rotate_left
              · (intro wx hSw; (try dsimp only at hSw); go_simp <;> with_reducible rfl)
              try simp only [Act.put, List.setIfInBounds_toArray, List.set_cons_zero, List.set_cons_succ, List.getElem_toArray, List.getElem_cons_zero, List.getElem_cons_succ]
              refine wpAnyH_take (i := 6) (v := undef) rfl (by kernel_rfl) (by kernel_rfl) (by kernel_rfl) (fun _ _ _ h => h) (Or.inr ⟨by simp [Region.wanted, yielded, undef], rfl⟩) (by assumption) ?_
              try simp only [Act.put, List.setIfInBounds_toArray, List.set_cons_zero, List.set_cons_succ, List.getElem_toArray, List.getElem_cons_zero, List.getElem_cons_succ]
              refine wpAnyH_take (i := 7) (v := undef) rfl (by kernel_rfl) (by kernel_rfl) (by kernel_rfl) (fun _ _ _ h => h) (Or.inr ⟨by simp [Region.wanted, yielded, undef], rfl⟩) (by assumption) ?_
              try simp only [Act.put, List.setIfInBounds_toArray, List.set_cons_zero, List.set_cons_succ, List.getElem_toArray, List.getElem_cons_zero, List.getElem_cons_succ]
              refine wpAnyH_take (i := 8) (v := undef) rfl (by kernel_rfl) (by kernel_rfl) (by kernel_rfl) (fun _ _ _ h => h) (Or.inr ⟨by simp [Region.wanted, yielded, undef], rfl⟩) (by assumption) ?_
              try simp only [Act.put, List.setIfInBounds_toArray, List.set_cons_zero, List.set_cons_succ, List.getElem_toArray, List.getElem_cons_zero, List.getElem_cons_succ]
              refine wpAnyH_take (i := 9) (v := undef) rfl (by kernel_rfl) (by kernel_rfl) (by kernel_rfl) (fun _ _ _ h => h) (Or.inr ⟨by simp [Region.wanted, yielded, undef], rfl⟩) (by assumption) ?_
              try simp only [Act.put, List.setIfInBounds_toArray, List.set_cons_zero, List.set_cons_succ, List.getElem_toArray, List.getElem_cons_zero, List.getElem_cons_succ]
              refine wpAnyH_take (i := 10) (v := undef) rfl (by kernel_rfl) (by kernel_rfl) (by kernel_rfl) (fun _ _ _ h => h) (Or.inr ⟨by simp [Region.wanted, yielded, undef], rfl⟩) (by assumption) ?_
              try simp only [Act.put, List.setIfInBounds_toArray, List.set_cons_zero, List.set_cons_succ, List.getElem_toArray, List.getElem_cons_zero, List.getElem_cons_succ]
              refine wpAnyH_take (i := 11) (v := undef) rfl (by kernel_rfl) (by kernel_rfl) (by kernel_rfl) (fun _ _ _ h => h) (Or.inr ⟨by simp [Region.wanted, yielded, undef], rfl⟩) (by assumption) ?_
              try simp only [Act.put, List.setIfInBounds_toArray, List.set_cons_zero, List.set_cons_succ, List.getElem_toArray, List.getElem_cons_zero, List.getElem_cons_succ]
              refine wpAnyH_take (i := 12) (v := undef) rfl (by kernel_rfl) (by kernel_rfl) (by kernel_rfl) (fun _ _ _ h => h) (Or.inr ⟨by simp [Region.wanted, yielded, undef], rfl⟩) (by assumption) ?_
              try simp only [Act.put, List.setIfInBounds_toArray, List.set_cons_zero, List.set_cons_succ, List.getElem_toArray, List.getElem_cons_zero, List.getElem_cons_succ]
              refine wpAnyH_take (i := 13) (v := undef) rfl (by kernel_rfl) (by kernel_rfl) (by kernel_rfl) (fun _ _ _ h => h) (Or.inr ⟨by simp [Region.wanted, yielded, undef], rfl⟩) (by assumption) ?_
              try simp only [Act.put, List.setIfInBounds_toArray, List.set_cons_zero, List.set_cons_succ, List.getElem_toArray, List.getElem_cons_zero, List.getElem_cons_succ]
              refine wpAnyH_take (i := 14) (v := undef) rfl (by kernel_rfl) (by kernel_rfl) (by kernel_rfl) (fun _ _ _ h => h) (Or.inr ⟨by simp [Region.wanted, yielded, undef], rfl⟩) (by assumption) ?_
              try simp only [Act.put, List.setIfInBounds_toArray, List.set_cons_zero, List.set_cons_succ, List.getElem_toArray, List.getElem_cons_zero, List.getElem_cons_succ]
              refine wpAnyH_take (i := 15) (v := undef) rfl (by kernel_rfl) (by kernel_rfl) (by kernel_rfl) (fun _ _ _ h => h) (Or.inr ⟨by simp [Region.wanted, yielded, undef], rfl⟩) (by assumption) ?_
              try simp only [Act.put, List.setIfInBounds_toArray, List.set_cons_zero, List.set_cons_succ, List.getElem_toArray, List.getElem_cons_zero, List.getElem_cons_succ]
              refine wpAnyH_take (i := 16) (v := ?_) rfl (by kernel_rfl) (by kernel_rfl) (by kernel_rfl) (fun _ _ _ h => h) (Or.inl ⟨by rfl, ?_⟩) (by assumption) ?_
              rotate_left
              · (intro wx hSw; (try dsimp only at hSw); go_simp <;> with_reducible rfl)
              try simp only [Act.put, List.setIfInBounds_toArray, List.set_cons_zero, List.set_cons_succ, List.getElem_toArray, List.getElem_cons_zero, List.getElem_cons_succ]
              refine wpAnyH_done (by kernel_rfl) ?_ _
              go_wp2
              go_meet
              exact ⟨by rw [hq.out], (Below.refl _ _).drew⟩
          case rest =>
            obtain ⟨rfl, HBd⟩ := hcut
            obtain ⟨wd, hwd⟩ : ∃ x, x = wc := ⟨_, rfl⟩
            subst hwd
            have HRd := Lib.hid (HRc.out.later HBd.out)
            have d1 := cellL d1 HBd.out
            have d2 := cellL d2 HBd.out
            clear HRc
            by_cases hin : es[K]? = some e
            · have hie : Hid (insE es e = es) := by
                show _ = _
                rw [insE_pl, HK.out, if_pos hin]
              rw [decide_eq_true hin]
              clear hin
              go_wp2
              go_roundg (l.length - (i + 1))
              case measure => have := Hi.out; have := Hlt.out; omega
              case rel =>
                refine ⟨i + 1, by have := Hi.out; have := Hlt.out; show _ = _; omega, by go_num, gv, ?_, HA2⟩
                rw [Hst.out, hie.out]; exact HRd
            · have hie : Hid (insE es e = es.take K ++ e :: es.drop K) := by
                show _ = _
                rw [insE_pl, HK.out, if_neg hin]
              have hme : Hid ((es.take K ++ e :: es.drop K).map ofEd = ((es.map ofEd).take K ++ [(x, y)]) ++ (es.map ofEd).drop K) := by
                show _ = _
                rw [List.map_append, List.map_cons, Hofe.out, List.map_take, List.map_drop, List.append_assoc]; rfl
              have HL1 : Hid (([] : List (Int × Int)).length + ((es.map ofEd).take K).length ≤ 1000000) := by show _ ≤ _; have := Hel.out; rw [List.length_take, List.length_map]; simp; omega
              have HL2 : Hid (((es.map ofEd).take K).length + 1 ≤ 1000000) := by show _ ≤ _; have := Hel.out; rw [List.length_take, List.length_map]; omega
              have HL3 : Hid (((es.map ofEd).take K ++ [(x, y)]).length + ((es.map ofEd).drop K).length ≤ 1000000) := by show _ ≤ _; have := Hel.out; rw [List.length_append, List.length_take, List.length_drop, List.length_map, List.length_singleton]; omega
              rw [decide_eq_false hin]
              clear hin
              have HKl := HKl
              by_cases h0 : es = []
              · obtain rfl := HRd.out.nil h0
                subst h0
                obtain rfl : K = 0 := by have := HKl.out; simpa using this
                have c1 := HRd.out.box.cell (i := 1) rfl
                have B01 : Below wd.heap.size wd (wd.alloc (.cells #[] 71)) := (Below.refl _ _).alloc (Nat.le_refl _) _
                have HB01 := Lib.hid B01
                have HE0 : Hid (OwnK kE wd.heap.size (wd.alloc (.cells #[] 71)) (.slice (some ⟨wd.heap.size, 0, none⟩) 0 0) []) := OwnK.empty (heap_alloc_new wd _) (Nat.le_refl _)
                have H15 : Hid (RowK kE (wd.alloc (.cells #[] 71)) (.slice none 0 0) (([] : List Ed).map ofEd |>.take 0)) := RowK.later (RowK.nil _) B01
                have c1e := cellL c1 B01
                clear B01
                go_upto_region 16 with (first
                  | (at_builtin; refine wpList_append_K (K := kE) rfl _ _ rfl wd.heap.size (.slice (some ⟨wd.heap.size, 0, none⟩) 0 0) [] rfl HE0.out (.slice none 0 0) (([] : List Ed).map ofEd |>.take 0) rfl H15.out HL1.out HB01.out.size ?_; intro v9 w9 ho9 hg9 _; have HB9 : Hid (Below wd.heap.size wd w9) := OwnK.below HE0.out hg9 HB01.out (Nat.le_refl _); have HO9 := Lib.hid ho9; clear ho9 hg9)
                  | fail)
                clear c1e
                rw [List.nil_append] at HO9
                obtain ⟨a9, g9, e9, -⟩ := HO9.out.row.form
                obtain ⟨m9, hm9⟩ : ∃ m, ((([] : List Ed).map ofEd |>.take 0)).length = m := ⟨_, rfl⟩
                rw [hm9] at e9
                subst e9
                clear hm9 HE0 H15 HB01
                have d1e := cellL d1 HB9.out
                have d2e := cellL d2 HB9.out
                go_upto_region 17 with (first
                  | (at_builtin; refine wpList_append_one (K := kE) rfl _ _ rfl wd.heap.size (.slice a9 m9 g9) (([] : List Ed).map ofEd |>.take 0) rfl HO9.out (x, y) _ _ rfl rfl HL2.out HB9.out.size ?_; intro v10 w10 ho10 hg10 _; have HB10 : Hid (Below wd.heap.size wd w10) := OwnK.below HO9.out hg10 HB9.out (Nat.le_refl _); have HO10 := Lib.hid ho10; clear ho10 hg10)
                  | fail)
                clear d1e d2e HO9 HB9
                obtain ⟨a10, g10, e10, -⟩ := HO10.out.row.form
                obtain ⟨m10, hm10⟩ : ∃ m, ((([] : List Ed).map ofEd |>.take 0) ++ [(x, y)]).length = m := ⟨_, rfl⟩
                rw [hm10] at e10
                subst e10
                clear hm10
                have c1f := cellL c1 HB10.out
                have H17 : Hid (RowK kE w10 (.slice none 0 0) (([] : List Ed).map ofEd |>.drop 0)) := RowK.later (RowK.nil _) HB10.out
                go_wp2_with (first
                  | (at_builtin; refine wpList_append_K (K := kE) rfl _ _ rfl wd.heap.size (.slice a10 m10 g10) ((([] : List Ed).map ofEd |>.take 0) ++ [(x, y)]) rfl HO10.out (.slice none 0 0) (([] : List Ed).map ofEd |>.drop 0) rfl H17.out HL3.out HB10.out.size ?_; intro v11 w11 ho11 hg11 _; have HB11 : Hid (Below wd.heap.size wd w11) := OwnK.below HO10.out hg11 HB10.out (Nat.le_refl _); have HO11 := Lib.hid ho11; clear ho11 hg11; obtain ⟨a11, g11, e11, -⟩ := HO11.out.row.form; obtain ⟨m11, hm11⟩ : ∃ m, (((([] : List Ed).map ofEd |>.take 0) ++ [(x, y)]) ++ (([] : List Ed).map ofEd |>.drop 0)).length = m := ⟨_, rfl⟩; rw [hm11] at e11; subst e11; clear hm11; have c1g := cellL c1 HB11.out; have c1f := RowIs.free (HRd.out.box.later HB11.out) 1)
                  | go_in)
                go_roundg (l.length - (i + 1))
                case measure => have := Hi.out; have := Hlt.out; omega
                case rel =>
                  refine ⟨i + 1, by have := Hi.out; have := Hlt.out; show _ = _; omega, by go_num, .slice a11 m11 g11, ?_, HA2⟩
                  rw [Hst.out, hie.out]
                  refine RnAt.put HRd.out HB11.out ?_ (by simp)
                  have := HO11.out
                  rw [hme.out]
                  exact this
          
              · obtain ⟨agv, gc, hgv, hgc, hgn⟩ := HRd.out.own.row.form
                rw [List.length_map] at hgv hgc
                have hpos : 0 < es.length := List.length_pos_iff.2 h0
                obtain ⟨⟨ga, oa, og⟩, rfl⟩ : ∃ A, agv = some A := by
                  cases agv with
                  | none => exact absurd (hgn rfl).1 (by simpa using h0)
                  | some A => exact ⟨A, rfl⟩
                have hrow := HRd.out.own.row
                obtain ⟨ga', oa', hgg, -⟩ := RowK.at_ (hgv ▸ hrow) (j := 0) (x := (es.map ofEd)[0]'(by rw [List.length_map]; exact hpos)) (List.getElem?_eq_getElem _)
                cases hgg
                subst hgv
                have HRow := Lib.hid hrow
                have c1 := HRd.out.box.cell (i := 1) rfl
                have hcap : ¬ gc = 0 := by omega
                have hKe : K ≤ es.length := HKl.out
                have hKc : K ≤ gc := by omega
                clear hgn h0 hrow
                have B01 : Below wd.heap.size wd (wd.alloc (.cells #[] 71)) := (Below.refl _ _).alloc (Nat.le_refl _) _
                have HB01 := Lib.hid B01
                have HE0 : Hid (OwnK kE wd.heap.size (wd.alloc (.cells #[] 71)) (.slice (some ⟨wd.heap.size, 0, none⟩) 0 0) []) := OwnK.empty (heap_alloc_new wd _) (Nat.le_refl _)
                have H15 : Hid (RowK kE (wd.alloc (.cells #[] 71)) (.slice (some ⟨ga, oa, none⟩) K gc) ((es.map ofEd).take K)) := RowK.later (RowK.take HRow.out hKe) B01
                have c1e := cellL c1 B01
                clear B01
                go_upto_region 16 with (first
                  | (at_builtin; refine wpList_append_K (K := kE) rfl _ _ rfl wd.heap.size (.slice (some ⟨wd.heap.size, 0, none⟩) 0 0) [] rfl HE0.out (.slice (some ⟨ga, oa, none⟩) K gc) ((es.map ofEd).take K) rfl H15.out HL1.out HB01.out.size ?_; intro v9 w9 ho9 hg9 _; have HB9 : Hid (Below wd.heap.size wd w9) := OwnK.below HE0.out hg9 HB01.out (Nat.le_refl _); have HO9 := Lib.hid ho9; clear ho9 hg9)
                  | fail)
                clear c1e
                rw [List.nil_append] at HO9
                obtain ⟨a9, g9, e9, -⟩ := HO9.out.row.form
                obtain ⟨m9, hm9⟩ : ∃ m, (((es.map ofEd).take K)).length = m := ⟨_, rfl⟩
                rw [hm9] at e9
                subst e9
                clear hm9 HE0 H15 HB01
                have d1e := cellL d1 HB9.out
                have d2e := cellL d2 HB9.out
                go_upto_region 17 with (first
                  | (at_builtin; refine wpList_append_one (K := kE) rfl _ _ rfl wd.heap.size (.slice a9 m9 g9) ((es.map ofEd).take K) rfl HO9.out (x, y) _ _ rfl rfl HL2.out HB9.out.size ?_; intro v10 w10 ho10 hg10 _; have HB10 : Hid (Below wd.heap.size wd w10) := OwnK.below HO9.out hg10 HB9.out (Nat.le_refl _); have HO10 := Lib.hid ho10; clear ho10 hg10)
                  | fail)
                clear d1e d2e HO9 HB9
                obtain ⟨a10, g10, e10, -⟩ := HO10.out.row.form
                obtain ⟨m10, hm10⟩ : ∃ m, (((es.map ofEd).take K) ++ [(x, y)]).length = m := ⟨_, rfl⟩
                rw [hm10] at e10
                subst e10
                clear hm10
                have c1f := cellL c1 HB10.out
                by_cases hKg : K = gc
                · subst hKg
                  have H17 : Hid (RowK kE w10 (.slice (some ⟨ga, oa, none⟩) 0 0) ((es.map ofEd).drop K)) := by
                    show RowK kE w10 _ _
                    rw [List.drop_of_length_le (by rw [List.length_map]; omega)]; exact RowK.empty
                  go_wp2_with (first
                    | (at_builtin; refine wpList_append_K (K := kE) rfl _ _ rfl wd.heap.size (.slice a10 m10 g10) (((es.map ofEd).take K) ++ [(x, y)]) rfl HO10.out (.slice (some ⟨ga, oa, none⟩) 0 0) ((es.map ofEd).drop K) rfl H17.out HL3.out HB10.out.size ?_; intro v11 w11 ho11 hg11 _; have HB11 : Hid (Below wd.heap.size wd w11) := OwnK.below HO10.out hg11 HB10.out (Nat.le_refl _); have HO11 := Lib.hid ho11; clear ho11 hg11; obtain ⟨a11, g11, e11, -⟩ := HO11.out.row.form; obtain ⟨m11, hm11⟩ : ∃ m, ((((es.map ofEd).take K) ++ [(x, y)]) ++ ((es.map ofEd).drop K)).length = m := ⟨_, rfl⟩; rw [hm11] at e11; subst e11; clear hm11; have c1g := cellL c1 HB11.out; have c1f := RowIs.free (HRd.out.box.later HB11.out) 1)
                    | go_in)
                  go_roundg (l.length - (i + 1))
                  case measure => have := Hi.out; have := Hlt.out; omega
                  case rel =>
                    refine ⟨i + 1, by have := Hi.out; have := Hlt.out; show _ = _; omega, by go_num, .slice a11 m11 g11, ?_, HA2⟩
                    rw [Hst.out, hie.out]
                    refine RnAt.put HRd.out HB11.out ?_ (by simp)
                    have := HO11.out
                    rw [hme.out]
                    exact this
                · skip
                  have H17 : Hid (RowK kE w10 (.slice (some ⟨ga, oa + K * 2, none⟩) (es.length - K) (gc - K)) ((es.map ofEd).drop K)) := RowK.later (RowK.drop HRow.out hKe) HB10.out
                  go_wp2_with (first
                    | (at_builtin; refine wpList_append_K (K := kE) rfl _ _ rfl wd.heap.size (.slice a10 m10 g10) (((es.map ofEd).take K) ++ [(x, y)]) rfl HO10.out (.slice (some ⟨ga, oa + K * 2, none⟩) (es.length - K) (gc - K)) ((es.map ofEd).drop K) rfl H17.out HL3.out HB10.out.size ?_; intro v11 w11 ho11 hg11 _; have HB11 : Hid (Below wd.heap.size wd w11) := OwnK.below HO10.out hg11 HB10.out (Nat.le_refl _); have HO11 := Lib.hid ho11; clear ho11 hg11; obtain ⟨a11, g11, e11, -⟩ := HO11.out.row.form; obtain ⟨m11, hm11⟩ : ∃ m, ((((es.map ofEd).take K) ++ [(x, y)]) ++ ((es.map ofEd).drop K)).length = m := ⟨_, rfl⟩; rw [hm11] at e11; subst e11; clear hm11; have c1g := cellL c1 HB11.out; have c1f := RowIs.free (HRd.out.box.later HB11.out) 1)
                    | go_in)
                  go_roundg (l.length - (i + 1))
                  case measure => have := Hi.out; have := Hlt.out; omega
                  case rel =>
                    refine ⟨i + 1, by have := Hi.out; have := Hlt.out; show _ = _; omega, by go_num, .slice a11 m11 g11, ?_, HA2⟩
                    rw [Hst.out, hie.out]
                    refine RnAt.put HRd.out HB11.out ?_ (by simp)
                    have := HO11.out
                    rw [hme.out]
                    exact this
          
          
      · have hc1 := HR.out.res.cell (i := 0) rfl
        have hc2 := HR.out.res.cell (i := 1) rfl
        have hf1 := RowIs.free HR.out.res 0
        have hf2 := RowIs.free HR.out.res 1
        have HE : Hid (Below w.heap.size w ((wr.setCell ⟨s, 0, none⟩ (.int .i64 0)).setCell ⟨s, 1, none⟩ (.slice none 0 0)) ∧ RowIs ((wr.setCell ⟨s, 0, none⟩ (.int .i64 0)).setCell ⟨s, 1, none⟩ (.slice none 0 0)) s 27 [.int .i64 0, .slice none 0 0]) :=
          ⟨(HR.out.low.setCell (p := ⟨s, 0, none⟩) (Nat.le_of_eq Hs.out) _).setCell (p := ⟨s, 1, none⟩) (Nat.le_of_eq Hs.out) _, RowIs.set (RowIs.set HR.out.res 0 _) 1 _⟩
        have HF : Hid (RNewPost w (n : Int) l (.returned (rErr 8)) ((wr.setCell ⟨s, 0, none⟩ (.int .i64 0)).setCell ⟨s, 1, none⟩ (.slice none 0 0))) :=
          ⟨HE.out.1, .inr (.inr (.inl ⟨⟨by have := Hn.out.1; omega, by have := Hn.out.1; omega⟩, Hn.out.2, ⟨_, List.mem_of_getElem? Hx.out, by rw [Int.toNat_natCast]; exact hgd⟩, rfl⟩))⟩
        have hor : x < 0 ∨ (¬ x < 0 ∧ (n : Int) ≤ x) ∨ (¬ x < 0 ∧ ¬ (n : Int) ≤ x ∧ y < 0) ∨ (¬ x < 0 ∧ ¬ (n : Int) ≤ x ∧ ¬ y < 0 ∧ (n : Int) ≤ y) := by unfold goodE at hgd; dsimp only at hgd; omega
        clear hgd HR HA
        rcases hor with h1 | ⟨h1, h2⟩ | ⟨h1, h2, h3⟩ | ⟨h1, h2, h3, h4⟩
        · go_wp2
          refine bodyPost_ret (v := rErr 8) (results_g2 rfl _ _ s (by rfl) (by rfl) HE.out.2) rfl ?_
          exact HF.out
        · go_wp2
          refine bodyPost_ret (v := rErr 8) (results_g2 rfl _ _ s (by rfl) (by rfl) HE.out.2) rfl ?_
          exact HF.out
        · go_wp2
          refine bodyPost_ret (v := rErr 8) (results_g2 rfl _ _ s (by rfl) (by rfl) HE.out.2) rfl ?_
          exact HF.out
        · go_wp2
          refine bodyPost_ret (v := rErr 8) (results_g2 rfl _ _ s (by rfl) (by rfl) HE.out.2) rfl ?_
          exact HF.out
    · have hii : ¬ (i : Int) < (l.length : Int) := by omega
      rw [List.take_of_length_le (by omega)] at HR
      obtain ⟨agv, gc, hgv, -⟩ := HR.out.own.row.form
      obtain ⟨m, hm⟩ : ∃ m, ((refNew (l.map toEd)).map ofEd).length = m := ⟨_, rfl⟩
      rw [hm] at hgv
      subst hgv
      clear hm
      have hc1 := HR.out.res.cell (i := 0) rfl
      have hc2 := HR.out.res.cell (i := 1) rfl
      have hf1 := RowIs.free HR.out.res 0
      have hf2 := RowIs.free HR.out.res 1
      have hb1 := HR.out.box.cell (i := 0) rfl
      have hb2 := HR.out.box.cell (i := 1) rfl
      have HE : Hid (Below w.heap.size w ((wr.setCell ⟨s, 0, none⟩ (.int .i64 n)).setCell ⟨s, 1, none⟩ (.slice agv m gc)) ∧ RowIs ((wr.setCell ⟨s, 0, none⟩ (.int .i64 n)).setCell ⟨s, 1, none⟩ (.slice agv m gc)) s 27 [.int .i64 n, .slice agv m gc]) :=
        ⟨(HR.out.low.setCell (p := ⟨s, 0, none⟩) (Nat.le_of_eq Hs.out) _).setCell (p := ⟨s, 1, none⟩) (Nat.le_of_eq Hs.out) _, RowIs.set (RowIs.set HR.out.res 0 _) 1 _⟩
      have HO : Hid (OwnK kE w.heap.size ((wr.setCell ⟨s, 0, none⟩ (.int .i64 n)).setCell ⟨s, 1, none⟩ (.slice agv m gc)) (.slice agv m gc) ((esOf l).map ofEd)) :=
        (OwnK.set (OwnK.set HR.out.own (by omega)) (by omega)).mono (by have := Hs.out; omega)
      have HAl : Hid (∀ e ∈ l, goodE n e) := fun e he => by
        obtain ⟨j, hj⟩ := List.mem_iff_getElem?.1 he
        exact HA.out j e (by have := (List.getElem?_eq_some_iff.1 hj).1; omega) hj
      clear HR HA
      go_wp2
      refine bodyPost_ret (v := .tuple #[.agg #[.int .i64 n, .slice agv m gc], .int .i64 0]) (results_g2 rfl _ _ s (by rfl) (by rfl) HE.out.2) rfl ?_
      exact ⟨HE.out.1, .inr (.inr (.inr ⟨⟨by have := Hn.out.1; omega, by have := Hn.out.1; omega⟩, Hn.out.2, HAl.out, _, rfl, HO.out⟩))⟩
end Go.Proofs.Yteiddebjbiadbaa
