/- graph: group. -/
import Derived.Test.YteiddebjbiadbaaGmF
namespace Go.Proofs.Yteiddebjbiadbaa
open Go.RowKit Gr
attribute [local go_sem ↓] Go.wp_at_zero Go.wp_at_succ

def natV (x : Nat) : Value := .int .i64 (x : Int)
def MarkRow (w : World) (b : Nat) (g : List Nat) : Prop := RowIs w b 3 (g.map natV)
theorem MarkRow.at_ {w : World} {b : Nat} {g : List Nat} (h : MarkRow w b g) {i : Nat} (hi : i < g.length) : w.cell? ⟨b, i, none⟩ = some (.int .i64 (val g i : Int)) := by
  refine RowIs.cell h ?_
  rw [List.getElem?_map, List.getElem?_eq_getElem hi]
  unfold val
  rw [List.getD_eq_getElem?_getD, List.getElem?_eq_getElem hi]
  rfl
theorem MarkRow.set {w : World} {b : Nat} {g : List Nat} (h : MarkRow w b g) (i c : Nat) : MarkRow (w.setCell ⟨b, i, none⟩ (.int .i64 (c : Int))) b (g.set i c) := by
  have := RowIs.set h i (.int .i64 (c : Int))
  unfold MarkRow
  rw [List.map_set]
  exact this
structure GpAt (w0 w : World) (bm bc bg bv mg p n c : Nat) (g : List Nat) : Prop where
  low : Below w0.heap.size w0 w
  up : w0.heap.size ≤ mg
  m : w.cell? ⟨bm, 0, none⟩ = some (.slice (some ⟨mg, 0, none⟩) n n)
  c : w.cell? ⟨bc, 0, none⟩ = some (.int .i64 (c : Int))
  gr : w.cell? ⟨bg, 0, none⟩ = some (.pointer (some ⟨p, 0, none⟩))
  v : w.cell? ⟨bv, 0, none⟩ = some (.func (.func 67) #[] #[.pointer (some ⟨bm, 0, none⟩), .pointer (some ⟨bc, 0, none⟩), .pointer (some ⟨bg, 0, none⟩), .pointer (some ⟨bv, 0, none⟩)])
  row : MarkRow w mg g
  len : g.length = n
  ne : bm ≠ mg ∧ bc ≠ mg ∧ bg ≠ mg ∧ bv ≠ mg
theorem GpAt.next {w0 w w' : World} {bm bc bg bv mg p n c : Nat} {g g' : List Nat} (h : GpAt w0 w bm bc bg bv mg p n c g) (hg : w.grownBy w' (some mg)) (hr : MarkRow w' mg g') (hl : g'.length = n) : GpAt w0 w' bm bc bg bv mg p n c g' :=
  ⟨below_grow h.low hg (Nat.le_refl _) (fun k hk => by cases hk; exact h.up), h.up, cell_grown hg h.m h.ne.1, cell_grown hg h.c h.ne.2.1, cell_grown hg h.gr h.ne.2.2.1, cell_grown hg h.v h.ne.2.2.2, hr, hl, h.ne⟩
def GpPost (w0 w : World) (bm bc bg bv mg p n c : Nat) (g' : List Nat) (r : Ending) (w' : World) : Prop :=
  r = .returned (.tuple #[]) ∧ GpAt w0 w' bm bc bg bv mg p n c g' ∧ w.grownBy w' (some mg)
theorem gp_seen {w0 w : World} {bm bc bg bv mg p n c : Nat} {g : List Nat} (h : GpAt w0 w bm bc bg bv mg p n c g) {m : Nat} (hm : m < n) (hs : val g m ≠ 0) :
    Calls Try.prog 67 #[.int .i64 m, .pointer (some ⟨bm, 0, none⟩), .pointer (some ⟨bc, 0, none⟩), .pointer (some ⟨bg, 0, none⟩), .pointer (some ⟨bv, 0, none⟩)] w (GpPost w0 w bm bc bg bv mg p n c g) := by
  have c1 := h.m
  have c2 := h.row.at_ (i := m) (by rw [h.len]; exact hm)
  have hsi : ¬ (val g m : Int) = 0 := by omega
  have hmi : (m : Int) < (n : Int) := by omega
  have H := Lib.hid h
  clear h
  go_enter Try.func67, Try.ntmps67
  go_wp2
  refine bodyPost_ret (v := .tuple #[]) (by simp [results, Try.results67, go_sem]) rfl ?_
  exact ⟨rfl, H.out, grown_refl _ _⟩
set_option maxHeartbeats 1600000 in
theorem gp_any {w0 : World} {bm bc bg bv mg p n c : Nat} {A B : Nat → List Nat} (hG : GOk w0 p n A B) (hc : c ≠ 0) : ∀ (k : Nat) (g : List Nat) (m : Nat) (w : World), GpAt w0 w bm bc bg bv mg p n c g → m < n → zeros g ≤ k →
    Calls Try.prog 67 #[.int .i64 m, .pointer (some ⟨bm, 0, none⟩), .pointer (some ⟨bc, 0, none⟩), .pointer (some ⟨bg, 0, none⟩), .pointer (some ⟨bv, 0, none⟩)] w (GpPost w0 w bm bc bg bv mg p n c (visitF B c k (g, []) m).1) := by
  intro k
  induction k with
  | zero =>
    intro g m w h hm hz
    refine gp_seen h hm (fun e => ?_)
    have := zeros_set (c := 1) e (by decide)
    omega
  | succ k ih =>
    intro g m w h hm hz
    by_cases hs : val g m ≠ 0
    · rw [visit_seen _ _ _ hs]
      exact gp_seen h hm hs
    · have h0 : val g m = 0 := by simpa using hs
      have c1 := h.m
      have c2 := h.row.at_ (i := m) (by rw [h.len]; exact hm)
      rw [h0] at c2
      have c3 := h.c
      have f2 := RowIs.free h.row m
      have hgr : w.grownBy (w.setCell ⟨mg, m, none⟩ (.int .i64 (c : Int))) (some mg) := grown_setCell _ _ _ _
      have H1 := Lib.hid (h.next hgr (h.row.set m c) (by rw [List.length_set]; exact h.len))
      obtain ⟨hn, ga, gb, -, c0, -, hra⟩ := hG.at_
      obtain ⟨v, hv1, hv2⟩ := hra m hm
      obtain ⟨a, ca, rfl, -⟩ := hv2.form
      have e3 := H1.out.gr
      have e4 := cellL c0 H1.out.low
      have e5 := cellL hv1 H1.out.low
      have Hrow := Lib.hid hv2
      have Hz : Hid (zeros (g.set m c) ≤ k) := by have := zeros_set (c := c) h0 hc; show _ ≤ _; omega
      have Hih := Lib.hid ih
      have Hg := Lib.hid hgr
      have HG := Lib.hid hG
      have e0 : visitF B c (k + 1) (g, []) m = (((B m).foldl (fun st q => visitF B c k st q) (g.set m c, [])).1, ((B m).foldl (fun st q => visitF B c k st q) (g.set m c, [])).2 ++ [m]) := by
        conv => lhs; unfold visitF
        rw [if_neg (by simpa using h0)]
      rw [e0]
      have Hm := Lib.hid hm
      have hmi : (m : Int) < (n : Int) := by omega
      have hal : (B m).length ≤ 4096 := hG.lb m
      clear hgr h hv1 hv2 ih hz hs h0 e0 hG hra c0
      go_enter Try.func67, Try.ntmps67
      go_upto_region 2 with fail
      obtain ⟨w1, hw1⟩ : ∃ w1, w.setCell ⟨mg, m, none⟩ (.int .i64 (c : Int)) = w1 := ⟨_, rfl⟩
      rw [hw1] at H1 Hg e3 e4 e5 ⊢
      clear hw1 c1 c2 c3 f2
      go_wp2
      go_loopg [25] (B m).length (fun gk iv wr => ∃ j : Nat, Hid (j + gk = (B m).length) ∧ iv = .int .i64 j ∧ Hid (GpAt w0 wr bm bc bg bv mg p n c (((B m).take j).foldl (fun st q => visitF B c k st q) (g.set m c, [])).1) ∧ Hid (w.grownBy wr (some mg)) ∧ Hid (zeros (((B m).take j).foldl (fun st q => visitF B c k st q) (g.set m c, [])).1 ≤ k))
      case atStart => exact ⟨0, Nat.zero_add _, rfl, H1, Hg, Hz⟩
      case round =>
        obtain ⟨j, Hj, rfl, HR, HGr, HZ⟩ := hrel
        by_cases hlt : j < (B m).length
        · obtain ⟨x, hx⟩ : ∃ x, (B m)[j]? = some x := ⟨_, List.getElem?_eq_getElem hlt⟩
          obtain ⟨ag, ao, rfl, hca⟩ := ((Hrow.out.later HR.out.low).at_ hx)
          have d1 := hca 0 _ rfl
          simp only [kNat, Nat.mul_one, Nat.add_zero] at d1
          have d2 := HR.out.v
          have hxn : x < n := HG.out.b m x (List.mem_of_getElem? hx)
          have Hc := Lib.hid (Hih.out _ x wr HR.out hxn HZ.out)
          have hst : (((B m).take (j + 1)).foldl (fun st q => visitF B c k st q) (g.set m c, [])).1 = (visitF B c k ((((B m).take j).foldl (fun st q => visitF B c k st q) (g.set m c, [])).1, []) x).1 := by
            rw [List.take_add_one, hx, List.foldl_append]
            exact visit_fst k _ _ _ x
          have Hst := Lib.hid hst
          have Hvz := Lib.hid (visit_vis (c := c) hc HG.out.b k (((B m).take j).foldl (fun st q => visitF B c k st q) (g.set m c, [])).1 [] x HR.out.len HZ.out hxn).zer
          have Hlt := Lib.hid hlt
          have hli : (j : Int) < ((B m).length : Int) := by omega
          have hjs : j < 4096 := by omega
          clear hst hlt hca hx
          go_wp2_with fail
          refine Hc.out.mono ?_
          rintro r w2 ⟨rfl, hR2, hg2⟩
          have HR2 := Lib.hid hR2
          have HG2 := Lib.hid (grown_trans HGr.out hg2)
          clear hR2 hg2 d1 d2 Hc
          go_wp2
          go_roundg ((B m).length - (j + 1))
          case measure => have := Hj.out; have := Hlt.out; omega
          case rel =>
            refine ⟨j + 1, by have := Hj.out; have := Hlt.out; show _ = _; omega, by go_num, ?_, HG2, ?_⟩
            · rw [Hst.out]; exact HR2
            · rw [Hst.out]; exact Nat.le_trans Hvz.out HZ.out
        · have hli : ¬ (j : Int) < ((B m).length : Int) := by omega
          rw [List.take_of_length_le (by omega)] at HR
          go_wp2
          refine bodyPost_ret (v := .tuple #[]) (by simp [results, Try.results67, go_sem]) rfl ?_
          exact ⟨rfl, HR.out, HGr.out⟩
theorem group_any {w0 w : World} {mg p n c m : Nat} {A B : Nat → List Nat} {g : List Nat} (hG : GOk w0 p n A B) (hc : c ≠ 0) (hlow : Below w0.heap.size w0 w) (hup : w0.heap.size ≤ mg) (hr : MarkRow w mg g) (hl : g.length = n) (hm : m < n) :
    Calls Try.prog 52 #[.pointer (some ⟨p, 0, none⟩), .int .i64 (m : Int), .int .i64 (c : Int), .slice (some ⟨mg, 0, none⟩) n n] w fun r w' => r = .returned (.tuple #[]) ∧ MarkRow w' mg (visitF B c n (g, []) m).1 ∧ w.grownBy w' (some mg) := by
  have HG := Lib.hid hG
  have Hlow := Lib.hid hlow
  have Hr := Lib.hid hr
  have Hup := Lib.hid hup
  have Hl := Lib.hid hl
  have Hc := Lib.hid hc
  have Hm := Lib.hid hm
  clear hG hlow hr hup hl hc hm
  go_enter Try.func52, Try.ntmps52
  go_upto_region 3 with fail
  obtain ⟨x1, hx1⟩ : ∃ x1, w.alloc (.cells #[.pointer (some ⟨p, 0, none⟩)] 25) = x1 := ⟨_, rfl⟩
  have b1 : Below w.heap.size w x1 := by rw [← hx1]; exact (Below.refl _ _).alloc (Nat.le_refl _) _
  have r1 : RowIs x1 (w.heap.size) 25 [.pointer (some ⟨p, 0, none⟩)] := by rw [← hx1]; exact new_row _ _ _
  have z1 : x1.heap.size = w.heap.size + 1 := by rw [← hx1, World.size_alloc]
  obtain ⟨x2, hx2⟩ : ∃ x2, x1.alloc (.cells #[.int .i64 (c : Int)] 3) = x2 := ⟨_, rfl⟩
  have b2 : Below x1.heap.size x1 x2 := by rw [← hx2]; exact (Below.refl _ _).alloc (Nat.le_refl _) _
  have r2 : RowIs x2 (w.heap.size + 1) 3 [.int .i64 (c : Int)] := by rw [← hx2, ← z1]; exact new_row _ _ _
  have z2 : x2.heap.size = w.heap.size + 1 + 1 := by rw [← hx2, World.size_alloc, z1]
  obtain ⟨x3, hx3⟩ : ∃ x3, x2.alloc (.cells #[.slice (some ⟨mg, 0, none⟩) n n] 30) = x3 := ⟨_, rfl⟩
  have b3 : Below x2.heap.size x2 x3 := by rw [← hx3]; exact (Below.refl _ _).alloc (Nat.le_refl _) _
  have r3 : RowIs x3 (w.heap.size + 1 + 1) 30 [.slice (some ⟨mg, 0, none⟩) n n] := by rw [← hx3, ← z2]; exact new_row _ _ _
  have z3 : x3.heap.size = w.heap.size + 1 + 1 + 1 := by rw [← hx3, World.size_alloc, z2]
  obtain ⟨x4, hx4⟩ : ∃ x4, x3.alloc (.cells #[.func (.func 67) #[] #[.pointer (some ⟨w.heap.size + 1 + 1, 0, none⟩), .pointer (some ⟨w.heap.size + 1, 0, none⟩), .pointer (some ⟨w.heap.size, 0, none⟩), .pointer (some ⟨w.heap.size + 1 + 1 + 1, 0, none⟩)]] 102) = x4 := ⟨_, rfl⟩
  have b4 : Below x3.heap.size x3 x4 := by rw [← hx4]; exact (Below.refl _ _).alloc (Nat.le_refl _) _
  have r4 : RowIs x4 (w.heap.size + 1 + 1 + 1) 102 [.func (.func 67) #[] #[.pointer (some ⟨w.heap.size + 1 + 1, 0, none⟩), .pointer (some ⟨w.heap.size + 1, 0, none⟩), .pointer (some ⟨w.heap.size, 0, none⟩), .pointer (some ⟨w.heap.size + 1 + 1 + 1, 0, none⟩)]] := by rw [← hx4, ← z3]; exact new_row _ _ _
  have z4 : x4.heap.size = w.heap.size + 1 + 1 + 1 + 1 := by rw [← hx4, World.size_alloc, z3]
  rw [hx1, hx2, hx3, hx4]
  have hml := Hr.out.lt
  have H0 : Hid (GpAt w0 x4 (w.heap.size + 1 + 1) (w.heap.size + 1) w.heap.size (w.heap.size + 1 + 1 + 1) mg p n c g) := by
    have hb : Below w.heap.size w x4 := ((b1.trans (b2.mono (by omega))).trans (b3.mono (by omega))).trans (b4.mono (by omega))
    exact ⟨Hlow.out.trans (hb.mono Hlow.out.size), Hup.out, (r3.later b4).cell rfl, ((r2.later b3).later b4).cell rfl, (((r1.later b2).later b3).later b4).cell rfl, r4.cell rfl, RowIs.later Hr.out hb, Hl.out, by omega⟩
  have Hgr : Hid (w.grownBy x4 (some mg)) := grown_of_below (((b1.trans (b2.mono (by omega))).trans (b3.mono (by omega))).trans (b4.mono (by omega))) _
  have HC := Lib.hid (gp_any HG.out Hc.out n g m x4 H0.out Hm.out (by have := zeros_le g; rw [Hl.out] at this; exact this))
  have d1 := H0.out.v
  clear hx1 hx2 hx3 hx4 z1 z2 z3 z4 b1 b2 b3 b4 r1 r2 r3 r4
  go_wp2_with fail
  refine HC.out.mono ?_
  rintro r w2 ⟨rfl, hR2, hg2⟩
  have HR2 := Lib.hid hR2
  have HG2 := Lib.hid (grown_trans Hgr.out hg2)
  clear hR2 hg2 HC d1
  go_wp2
  refine bodyPost_end (v := .tuple #[]) (by simp [results, Try.results52, go_sem]) rfl ?_
  exact ⟨rfl, HR2.out.row, HG2.out⟩
end Go.Proofs.Yteiddebjbiadbaa
