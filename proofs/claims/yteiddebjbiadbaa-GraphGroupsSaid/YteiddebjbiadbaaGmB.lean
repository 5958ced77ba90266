/- graph: reached. -/
import Derived.Test.YteiddebjbiadbaaGmA
namespace Go.Proofs.Yteiddebjbiadbaa
open Go.RowKit Gr
attribute [local go_sem ↓] Go.wp_at_zero Go.wp_at_succ

theorem fold_fst {adj : Nat → List Nat} {c k : Nat} (hv : ∀ g l l' n, (visitF adj c k (g, l) n).1 = (visitF adj c k (g, l') n).1) : ∀ (ns : List Nat) (g l l' : List Nat), (ns.foldl (fun st m => visitF adj c k st m) (g, l)).1 = (ns.foldl (fun st m => visitF adj c k st m) (g, l')).1
  | [], _, _, _ => rfl
  | n :: ns, g, l, l' => by
    rw [List.foldl_cons, List.foldl_cons]
    have h := fold_fst hv ns (visitF adj c k (g, l) n).1 (visitF adj c k (g, l) n).2 (visitF adj c k (g, l') n).2
    have e : (visitF adj c k (g, l') n) = ((visitF adj c k (g, l) n).1, (visitF adj c k (g, l') n).2) := by rw [hv g l l' n]
    rw [e]
    exact h
theorem visit_fst {adj : Nat → List Nat} {c : Nat} : ∀ (k : Nat) (g l l' : List Nat) (n : Nat), (visitF adj c k (g, l) n).1 = (visitF adj c k (g, l') n).1
  | 0, _, _, _, _ => rfl
  | k + 1, g, l, l', n => by
    unfold visitF
    by_cases h : val g n ≠ 0
    · rw [if_pos h, if_pos h]
    · rw [if_neg h, if_neg h]
      exact fold_fst (visit_fst k) _ _ _ _
theorem visit_seen {adj : Nat → List Nat} {c : Nat} (k : Nat) (st : List Nat × List Nat) (n : Nat) (h : val st.1 n ≠ 0) : visitF adj c k st n = st := by
  cases k with
  | zero => rfl
  | succ k => unfold visitF; rw [if_pos h]
def boolV (x : Nat) : Value := .bool (decide (x ≠ 0))
/-- A row of marks: what was visited. -/
def BoolRow (w : World) (b : Nat) (g : List Nat) : Prop := RowIs w b 4 (g.map boolV)
theorem BoolRow.at_ {w : World} {b : Nat} {g : List Nat} (h : BoolRow w b g) {i : Nat} (hi : i < g.length) : w.cell? ⟨b, i, none⟩ = some (.bool (decide (val g i ≠ 0))) := by
  refine RowIs.cell h ?_
  rw [List.getElem?_map, List.getElem?_eq_getElem hi]
  unfold val
  rw [List.getD_eq_getElem?_getD, List.getElem?_eq_getElem hi]
  rfl
theorem BoolRow.set {w : World} {b : Nat} {g : List Nat} (h : BoolRow w b g) (i c : Nat) (hc : c ≠ 0) : BoolRow (w.setCell ⟨b, i, none⟩ (.bool true)) b (g.set i c) := by
  have := RowIs.set h i (.bool true)
  unfold BoolRow
  rw [List.map_set]
  have e : boolV c = .bool true := by unfold boolV; rw [decide_eq_true hc]
  rw [e]; exact this
/-- A cell of a block that is not the one that is written. -/
theorem cell_grown {w w' : World} {sg b i : Nat} {v : Value} (hg : w.grownBy w' (some sg)) (h : w.cell? ⟨b, i, none⟩ = some v) (hb : b ≠ sg) : w'.cell? ⟨b, i, none⟩ = some v :=
  (World.cell?_of_block (a := ⟨b, i, none⟩) (hg.block b (World.block_lt_of_cell? w _ h) (by simp; exact hb))).trans h
/-- What the closure of reached sees: the boxes of seen, of edges, of visit. -/
structure RcAt (w0 w : World) (bs be bv sg ga n c : Nat) (A : Nat → List Nat) (g : List Nat) : Prop where
  low : Below w0.heap.size w0 w
  up : w0.heap.size ≤ sg
  s : w.cell? ⟨bs, 0, none⟩ = some (.slice (some ⟨sg, 0, none⟩) n n)
  e : w.cell? ⟨be, 0, none⟩ = some (.slice (some ⟨ga, 0, none⟩) n c)
  v : w.cell? ⟨bv, 0, none⟩ = some (.func (.func 61) #[] #[.pointer (some ⟨bs, 0, none⟩), .pointer (some ⟨be, 0, none⟩), .pointer (some ⟨bv, 0, none⟩)])
  rows : RowsAt w0 ga n A
  row : BoolRow w sg g
  len : g.length = n
  ne : bs ≠ sg ∧ be ≠ sg ∧ bv ≠ sg
theorem RcAt.next {w0 w w' : World} {bs be bv sg ga n c : Nat} {A : Nat → List Nat} {g g' : List Nat} (h : RcAt w0 w bs be bv sg ga n c A g) (hg : w.grownBy w' (some sg)) (hr : BoolRow w' sg g') (hl : g'.length = n) : RcAt w0 w' bs be bv sg ga n c A g' :=
  ⟨below_grow h.low hg (Nat.le_refl _) (fun k hk => by cases hk; exact h.up), h.up, cell_grown hg h.s h.ne.1, cell_grown hg h.e h.ne.2.1, cell_grown hg h.v h.ne.2.2, h.rows, hr, hl, h.ne⟩
def RcPost (w0 w : World) (bs be bv sg ga n c : Nat) (A : Nat → List Nat) (g' : List Nat) (r : Ending) (w' : World) : Prop :=
  r = .returned (.tuple #[]) ∧ RcAt w0 w' bs be bv sg ga n c A g' ∧ w.grownBy w' (some sg)
theorem rc_seen {w0 w : World} {bs be bv sg ga n c : Nat} {A : Nat → List Nat} {g : List Nat} (h : RcAt w0 w bs be bv sg ga n c A g) {m : Nat} (hm : m < n) (hs : val g m ≠ 0) :
    Calls Try.prog 61 #[.int .i64 m, .pointer (some ⟨bs, 0, none⟩), .pointer (some ⟨be, 0, none⟩), .pointer (some ⟨bv, 0, none⟩)] w (RcPost w0 w bs be bv sg ga n c A g) := by
  have c1 := h.s
  have c2 := h.row.at_ (i := m) (by rw [h.len]; exact hm)
  rw [decide_eq_true hs] at c2
  have H := Lib.hid h
  clear h
  go_enter Try.func61, Try.ntmps61
  go_wp2
  refine bodyPost_ret (v := .tuple #[]) (by simp [results, Try.results61, go_sem]) rfl ?_
  exact ⟨rfl, H.out, grown_refl _ _⟩
theorem rc_any {w0 : World} {bs be bv sg ga n c : Nat} {A : Nat → List Nat} (hA : ∀ i, ∀ j ∈ A i, j < n) (hnd : ∀ i, (A i).length ≤ 4096) : ∀ (k : Nat) (g : List Nat) (m : Nat) (w : World), RcAt w0 w bs be bv sg ga n c A g → m < n → zeros g ≤ k →
    Calls Try.prog 61 #[.int .i64 m, .pointer (some ⟨bs, 0, none⟩), .pointer (some ⟨be, 0, none⟩), .pointer (some ⟨bv, 0, none⟩)] w (RcPost w0 w bs be bv sg ga n c A (visitF A 1 k (g, []) m).1) := by
  intro k
  induction k with
  | zero =>
    intro g m w h hm hz
    refine rc_seen h hm (fun e => ?_)
    have := zeros_set (c := 1) e (by decide)
    omega
  | succ k ih =>
    intro g m w h hm hz
    by_cases hs : val g m ≠ 0
    · rw [visit_seen _ _ _ hs]
      exact rc_seen h hm hs
    · have h0 : val g m = 0 := by simpa using hs
      have c1 := h.s
      have c2 := h.row.at_ (i := m) (by rw [h.len]; exact hm)
      rw [decide_eq_false hs] at c2
      have f2 := RowIs.free h.row m
      have c3 := h.e
      have hsg := h.ne
      obtain ⟨v, hv1, hv2⟩ := h.rows m hm
      obtain ⟨a, ca, rfl, -⟩ := hv2.form
      have hgr : w.grownBy (w.setCell ⟨sg, m, none⟩ (.bool true)) (some sg) := grown_setCell _ _ _ _
      have H1 := Lib.hid (h.next hgr (h.row.set m 1 (by decide)) (by rw [List.length_set]; exact h.len))
      have c4 := ((bcell H1.out.low).1 _ _ (World.block_lt_of_cell? w0 _ hv1)).trans hv1
      have Hrow := Lib.hid hv2
      have Hz : Hid (zeros (g.set m 1) ≤ k) := by have := zeros_set (c := 1) h0 (by decide); show _ ≤ _; omega
      have Hih := Lib.hid ih
      have Hg := Lib.hid hgr
      have e0 : visitF A 1 (k + 1) (g, []) m = (((A m).foldl (fun st q => visitF A 1 k st q) (g.set m 1, [])).1, ((A m).foldl (fun st q => visitF A 1 k st q) (g.set m 1, [])).2 ++ [m]) := by
        conv => lhs; unfold visitF
        rw [if_neg (by simpa using h0)]
      rw [e0]
      have Hm := Lib.hid hm
      clear hgr h hv1 hv2 ih hz hs h0 e0
      go_enter Try.func61, Try.ntmps61
      go_upto_region 2 with fail
      obtain ⟨w1, hw1⟩ : ∃ w1, w.setCell ⟨sg, m, none⟩ (.bool true) = w1 := ⟨_, rfl⟩
      rw [hw1] at H1 Hg c4 ⊢
      clear hw1 c1 c2 c3 f2
      have c3 := H1.out.e
      go_wp2
      go_loopg [19] (A m).length (fun gk iv wr => ∃ j : Nat, j + gk = (A m).length ∧ iv = .int .i64 j ∧ Hid (RcAt w0 wr bs be bv sg ga n c A (((A m).take j).foldl (fun st q => visitF A 1 k st q) (g.set m 1, [])).1) ∧ Hid (w.grownBy wr (some sg)) ∧ Hid (zeros (((A m).take j).foldl (fun st q => visitF A 1 k st q) (g.set m 1, [])).1 ≤ k))
      case atStart => exact ⟨0, by omega, rfl, H1, Hg, Hz⟩
      case round =>
        obtain ⟨j, hj, rfl, HR, HG, HZ⟩ := hrel
        by_cases hlt : j < (A m).length
        · obtain ⟨x, hx⟩ : ∃ x, (A m)[j]? = some x := ⟨_, List.getElem?_eq_getElem hlt⟩
          obtain ⟨ag, ao, rfl, hca⟩ := ((Hrow.out.later HR.out.low).at_ hx)
          have d1 := hca 0 _ rfl
          simp only [kNat, Nat.mul_one, Nat.add_zero] at d1
          have d2 := HR.out.v
          have hxn : x < n := hA m x (List.mem_of_getElem? hx)
          have Hc := Lib.hid (Hih.out _ x wr HR.out hxn HZ.out)
          have hst : (((A m).take (j + 1)).foldl (fun st q => visitF A 1 k st q) (g.set m 1, [])).1 = (visitF A 1 k ((((A m).take j).foldl (fun st q => visitF A 1 k st q) (g.set m 1, [])).1, []) x).1 := by
            rw [List.take_add_one, hx, List.foldl_append]
            exact visit_fst k _ _ _ x
          have Hst := Lib.hid hst
          have Hvz := Lib.hid (visit_vis (c := 1) (by decide) hA k (((A m).take j).foldl (fun st q => visitF A 1 k st q) (g.set m 1, [])).1 [] x HR.out.len HZ.out hxn).zer
          have Hj := Lib.hid hj
          have Hlt := Lib.hid hlt
          have hli : (j : Int) < ((A m).length : Int) := by omega
          have hjs : j < 4096 := by have := hnd m; omega
          clear hst hj hlt
          go_wp2_with fail
          refine Hc.out.mono ?_
          rintro r w2 ⟨rfl, hR2, hg2⟩
          have HR2 := Lib.hid hR2
          have HG2 := Lib.hid (grown_trans HG.out hg2)
          clear hR2 hg2 d1 d2 Hc
          go_wp2
          go_roundg ((A m).length - (j + 1))
          case measure => have := Hj.out; have := Hlt.out; omega
          case rel =>
            refine ⟨j + 1, by have := Hj.out; have := Hlt.out; omega, by go_num, ?_, HG2, ?_⟩
            · rw [Hst.out]; exact HR2
            · rw [Hst.out]; exact Nat.le_trans Hvz.out HZ.out
        · have hli : ¬ (j : Int) < ((A m).length : Int) := by omega
          have hall : (A m).take j = A m := List.take_of_length_le (by omega)
          rw [hall] at HR
          go_wp2
          refine bodyPost_ret (v := .tuple #[]) (by simp [results, Try.results61, go_sem]) rfl ?_
          exact ⟨rfl, HR.out, HG.out⟩
/-- graph.reached. -/
theorem reached_any {w : World} {ga n c : Nat} {A : Nat → List Nat} {vf : Value} {S : List Int} (hrow : RowsAt w ga n A) (hn : n ≤ 4096) (hA : ∀ i, ∀ j ∈ A i, j < n) (hnd : ∀ i, (A i).length ≤ 4096) (hS : RowK kInt w vf S) (hl : S.length ≤ 1000000) :
    Calls Try.prog 41 #[.slice (some ⟨ga, 0, none⟩) n c, vf] w fun r w' => ∃ b, r = .returned (.slice (some ⟨b, 0, none⟩) n n) ∧ w.heap.size ≤ b ∧ BoolRow w' b (reachedF A n ((S.filter fun x => nodeB n x).map Int.toNat)) ∧ Below w.heap.size w w' := by
  obtain ⟨av, cv, rfl, -⟩ := hS.form
  have hmk := run_make_row' (P := Try.prog) 78 4 (.bool false) 1 Try.underlying78 (by kernel_rfl) rfl .i64 .i64 n (by omega) (by omega)
  have Hrow := Lib.hid hrow
  have HS := Lib.hid hS
  clear hrow hS
  go_enter Try.func41, Try.ntmps41
  go_upto_region 4 with fail
  obtain ⟨x1, hx1⟩ : ∃ x1, w.alloc (.cells #[.slice (some ⟨ga, 0, none⟩) n c] 53) = x1 := ⟨_, rfl⟩
  have z1 : x1.heap.size = w.heap.size + 1 := by rw [← hx1, World.size_alloc]
  obtain ⟨x2, hx2⟩ : ∃ x2, x1.alloc (.cells (madeCells #[.bool false] n) 4) = x2 := ⟨_, rfl⟩
  have z2 : x2.heap.size = w.heap.size + 1 + 1 := by rw [← hx2, World.size_alloc, z1]
  obtain ⟨x3, hx3⟩ : ∃ x3, x2.alloc (.cells #[.slice (some ⟨w.heap.size + 1, 0, none⟩) n n] 78) = x3 := ⟨_, rfl⟩
  have z3 : x3.heap.size = w.heap.size + 1 + 1 + 1 := by rw [← hx3, World.size_alloc, z2]
  obtain ⟨x4, hx4⟩ : ∃ x4, x3.alloc (.cells #[.func (.func 61) #[] #[.pointer (some ⟨w.heap.size + 1 + 1, 0, none⟩), .pointer (some ⟨w.heap.size, 0, none⟩), .pointer (some ⟨w.heap.size + 1 + 1 + 1, 0, none⟩)]] 102) = x4 := ⟨_, rfl⟩
  rw [hx1, hx2, hx3, hx4]
  have b1 : Below w.heap.size w x1 := by rw [← hx1]; exact (Below.refl _ _).alloc (Nat.le_refl _) _
  have b2 : Below x1.heap.size x1 x2 := by rw [← hx2]; exact (Below.refl _ _).alloc (Nat.le_refl _) _
  have b3 : Below x2.heap.size x2 x3 := by rw [← hx3]; exact (Below.refl _ _).alloc (Nat.le_refl _) _
  have b4 : Below x3.heap.size x3 x4 := by rw [← hx4]; exact (Below.refl _ _).alloc (Nat.le_refl _) _
  have r1 : RowIs x1 w.heap.size 53 [.slice (some ⟨ga, 0, none⟩) n c] := by rw [← hx1]; exact new_row _ _ _
  have r2 : RowIs x2 (w.heap.size + 1) 4 (List.replicate n (.bool false)) := by rw [← hx2, ← z1]; exact made_row _ _ _ _
  have r3 : RowIs x3 (w.heap.size + 1 + 1) 78 [.slice (some ⟨w.heap.size + 1, 0, none⟩) n n] := by rw [← hx3, ← z2]; exact new_row _ _ _
  have r4 : RowIs x4 (w.heap.size + 1 + 1 + 1) 102 [.func (.func 61) #[] #[.pointer (some ⟨w.heap.size + 1 + 1, 0, none⟩), .pointer (some ⟨w.heap.size, 0, none⟩), .pointer (some ⟨w.heap.size + 1 + 1 + 1, 0, none⟩)]] := by rw [← hx4, ← z3]; exact new_row _ _ _
  have H4 : Hid (RcAt w x4 (w.heap.size + 1 + 1) w.heap.size (w.heap.size + 1 + 1 + 1) (w.heap.size + 1) ga n c A (List.replicate n 0)) := by
    refine ⟨((b1.trans (b2.mono (by omega))).trans (b3.mono (by omega))).trans (b4.mono (by omega)), by omega, (r3.later b4).cell rfl, (((r1.later b2).later b3).later b4).cell rfl, r4.cell rfl, Hrow.out, ?_, by simp, by omega⟩
    have := (r2.later b3).later b4
    unfold BoolRow
    rw [List.map_replicate]
    exact this
  clear hmk hx1 hx2 hx3 hx4 z1 z2 z3 b1 b2 b3 b4 r1 r2 r3 r4
  go_wp2
  go_loopg [15] S.length (fun gk iv wr => ∃ j : Nat, j + gk = S.length ∧ iv = .int .i64 j ∧ Hid (RcAt w wr (w.heap.size + 1 + 1) w.heap.size (w.heap.size + 1 + 1 + 1) (w.heap.size + 1) ga n c A (reachedF A n (((S.take j).filter fun x => nodeB n x).map Int.toNat))))
  case atStart => exact ⟨0, by omega, rfl, H4⟩
  case round =>
    obtain ⟨j, hj, rfl, HR⟩ := hrel
    by_cases hlt : j < S.length
    · obtain ⟨x, hx⟩ : ∃ x, S[j]? = some x := ⟨_, List.getElem?_eq_getElem hlt⟩
      obtain ⟨ag, ao, rfl, hca⟩ := ((HS.out.later HR.out.low).at_ hx)
      have d1 := hca 0 _ rfl
      simp only [kInt, Nat.mul_one, Nat.add_zero] at d1
      have d2 := HR.out.v
      have d3 := HR.out.e
      have hli : (j : Int) < (S.length : Int) := by omega
      have Hj := Lib.hid hj
      have Hlt := Lib.hid hlt
      have hjs : j < 1000000 := by omega
      have htk : (((S.take (j + 1)).filter fun x => nodeB n x).map Int.toNat) = ((S.take j).filter fun x => nodeB n x).map Int.toNat ++ if nodeB n x = true then [x.toNat] else [] := by
        rw [List.take_add_one, hx, List.filter_append, List.map_append]
        by_cases q : nodeB n x = true
        · rw [if_pos q]; simp [q]
        · rw [if_neg q]; simp [q]
      have Htk := Lib.hid htk
      clear htk hj hlt
      by_cases hb : 0 ≤ x ∧ x < (n : Int)
      · obtain ⟨h0, h1⟩ := hb
        obtain ⟨m, rfl⟩ := Int.eq_ofNat_of_zero_le h0
        have hq : nodeB n (m : Int) = true := by unfold nodeB; simp; omega
        rw [hq, if_pos rfl] at Htk
        have hS' : ∀ s ∈ ((S.take j).filter fun x => nodeB n x).map Int.toNat, s < n := fun s hs => by
          obtain ⟨y, hy, rfl⟩ := List.mem_map.1 hs
          have := (List.mem_filter.1 hy).2
          unfold nodeB at this
          simp at this
          omega
        have hz := (visits_vis (c := 1) (by decide) hA n (((S.take j).filter fun x => nodeB n x).map Int.toNat) (List.replicate n 0) [] (by simp) (Nat.le_trans (zeros_le _) (by simp)) hS').zer
        have Hc := Lib.hid (rc_any hA hnd n _ m wr HR.out (by omega) (Nat.le_trans hz (Nat.le_trans (zeros_le _) (by simp))))
        have hst : reachedF A n (((S.take (j + 1)).filter fun x => nodeB n x).map Int.toNat) = (visitF A 1 n (reachedF A n (((S.take j).filter fun x => nodeB n x).map Int.toNat), []) m).1 := by
          rw [Htk.out]
          unfold reachedF
          rw [List.foldl_append]
          exact visit_fst n _ _ _ m
        have Hst := Lib.hid hst
        clear hst hz hS' hq
        go_wp2_with fail
        refine Hc.out.mono ?_
        rintro r w2 ⟨rfl, hR2, hg2⟩
        have HR2 := Lib.hid hR2
        clear hR2 hg2 d1 d2 d3 Hc
        go_wp2
        go_roundg (S.length - (j + 1))
        case measure => have := Hj.out; have := Hlt.out; omega
        case rel =>
          refine ⟨j + 1, by have := Hj.out; have := Hlt.out; omega, by go_num, ?_⟩
          rw [Hst.out]; exact HR2
      · have hq : nodeB n x = false := by unfold nodeB; simp; omega
        rw [hq] at Htk
        have HR2 : Hid (RcAt w wr (w.heap.size + 1 + 1) w.heap.size (w.heap.size + 1 + 1 + 1) (w.heap.size + 1) ga n c A (reachedF A n (((S.take (j + 1)).filter fun x => nodeB n x).map Int.toNat))) := by
          rw [Htk.out]; simp; exact HR.out
        clear HR Htk hq
        have hb2 : ¬ 0 ≤ x ∨ (0 ≤ x ∧ ¬ x < (n : Int)) := by omega
        clear hb
        rcases hb2 with h0 | ⟨h0, h1⟩
        all_goals
          go_wp2
          go_roundg (S.length - (j + 1))
          case measure => have := Hj.out; have := Hlt.out; omega
          case rel => exact ⟨j + 1, by have := Hj.out; have := Hlt.out; omega, by go_num, HR2⟩
    · have hli : ¬ (j : Int) < (S.length : Int) := by omega
      have hall : S.take j = S := List.take_of_length_le (by omega)
      rw [hall] at HR
      have d2 := HR.out.s
      go_wp2
      go_ret
      exact ⟨_, rfl, HR.out.up, HR.out.row, HR.out.low⟩
end Go.Proofs.Yteiddebjbiadbaa
