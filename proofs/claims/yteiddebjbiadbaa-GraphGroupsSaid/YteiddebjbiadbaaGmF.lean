/- graph: finished, group. -/
import Derived.Test.YteiddebjbiadbaaGmC
import Derived.Test.YteiddebjbiadbaaGmN
import Derived.Test.YteiddebjbiadbaaGrD
namespace Go.Proofs.Yteiddebjbiadbaa
open Go.RowKit Gr
attribute [local go_sem ↓] Go.wp_at_zero Go.wp_at_succ

theorem cell_apart {w w' : World} {row : Option Nat} {b i : Nat} {v : Value} (hg : w.grownBy w' row) (h : w.cell? ⟨b, i, none⟩ = some v) (hb : row ≠ some b) : w'.cell? ⟨b, i, none⟩ = some v :=
  (World.cell?_of_block (a := ⟨b, i, none⟩) (hg.block b (World.block_lt_of_cell? w _ h) (fun e => hb e.symm))).trans h
theorem fold_size {adj : Nat → List Nat} {c k : Nat} (hv : ∀ (st : List Nat × List Nat) (n : Nat), (visitF adj c k st n).2.length + zeros (visitF adj c k st n).1 ≤ st.2.length + zeros st.1) : ∀ (ns : List Nat) (st : List Nat × List Nat), (ns.foldl (fun st m => visitF adj c k st m) st).2.length + zeros (ns.foldl (fun st m => visitF adj c k st m) st).1 ≤ st.2.length + zeros st.1
  | [], _ => Nat.le_refl _
  | n :: ns, st => by rw [List.foldl_cons]; exact Nat.le_trans (fold_size hv ns _) (hv st n)
theorem visit_size {adj : Nat → List Nat} {c : Nat} (hc : c ≠ 0) : ∀ (k : Nat) (st : List Nat × List Nat) (n : Nat), (visitF adj c k st n).2.length + zeros (visitF adj c k st n).1 ≤ st.2.length + zeros st.1
  | 0, _, _ => Nat.le_refl _
  | k + 1, st, n => by
    unfold visitF
    by_cases h : val st.1 n ≠ 0
    · rw [if_pos h]; exact Nat.le_refl _
    · rw [if_neg h]
      have h1 := fold_size (adj := adj) (visit_size hc k) (adj n) (st.1.set n c, st.2)
      have h2 := zeros_set (c := c) (show val st.1 n = 0 by simpa using h) hc
      dsimp only at h1 ⊢
      rw [List.length_append, List.length_singleton]
      omega
/-- What the closure of finished sees. -/
structure FnAt (w0 w : World) (bs bg bv bl sg base p n : Nat) (g : List Nat) (vl : Value) (l : List Nat) : Prop where
  low : Below w0.heap.size w0 w
  up : w0.heap.size ≤ sg ∧ w0.heap.size ≤ bl
  s : w.cell? ⟨bs, 0, none⟩ = some (.slice (some ⟨sg, 0, none⟩) n n)
  gr : w.cell? ⟨bg, 0, none⟩ = some (.pointer (some ⟨p, 0, none⟩))
  v : w.cell? ⟨bv, 0, none⟩ = some (.func (.func 66) #[] #[.pointer (some ⟨bs, 0, none⟩), .pointer (some ⟨bg, 0, none⟩), .pointer (some ⟨bv, 0, none⟩), .pointer (some ⟨bl, 0, none⟩)])
  row : BoolRow w sg g
  len : g.length = n
  box : RowIs w bl 30 [vl]
  own : OwnK kNat base w vl l
  ne : (bs ≠ sg ∧ bg ≠ sg ∧ bv ≠ sg ∧ bl ≠ sg) ∧ bs ≠ bl ∧ bg ≠ bl ∧ bv ≠ bl
  sz : base ≤ w.heap.size
  lt : bs < base ∧ bg < base ∧ bv < base ∧ bl < base ∧ sg < base
section
variable {w0 w w' : World} {bs bg bv bl sg base p n : Nat} {g : List Nat} {vl : Value} {l : List Nat}
theorem FnAt.mark (h : FnAt w0 w bs bg bv bl sg base p n g vl l) (i : Nat) : FnAt w0 (w.setCell ⟨sg, i, none⟩ (.bool true)) bs bg bv bl sg base p n (g.set i 1) vl l := by
  have hg := grown_setCell w sg i (.bool true)
  exact ⟨h.low.setCell (p := ⟨sg, i, none⟩) h.up.1 _, h.up, cell_grown hg h.s h.ne.1.1, cell_grown hg h.gr h.ne.1.2.1, cell_grown hg h.v h.ne.1.2.2.1, h.row.set i 1 (by decide), by rw [List.length_set]; exact h.len,
    RowIs.other_set h.box (fun e => h.ne.1.2.2.2 e.symm) _ _, h.own.set h.lt.2.2.2.2, h.ne, by rw [size_setCell]; exact h.sz, h.lt⟩
theorem FnAt.put (h : FnAt w0 w bs bg bv bl sg base p n g vl l) {w9 : World} {v9 : Value} {l' : List Nat} (hg : w.grownBy w9 vl.ownBlock) (ho : OwnK kNat base w9 v9 l') : FnAt w0 (w9.setCell ⟨bl, 0, none⟩ v9) bs bg bv bl sg base p n g v9 l' := by
  have ha : ∀ k, k < base → vl.ownBlock ≠ some k := fun k hk e => by have := (h.own.lt e).1; omega
  have h2 := grown_setCell w9 bl 0 v9
  have hlt := h.lt
  have hlow : Below w0.heap.size w0 w9 := by
    refine below_grow h.low hg (Nat.le_refl _) (fun k hk => ?_)
    have := (h.own.lt hk).1
    have := h.up
    omega
  have hb : RowIs w9 bl 30 [vl] := RowIs.kept h.box (hg.block bl h.box.lt (fun e => ha bl hlt.2.2.2.1 e.symm))
  have hr : BoolRow w9 sg g := RowIs.kept h.row (hg.block sg (RowIs.lt h.row) (fun e => ha sg hlt.2.2.2.2 e.symm))
  exact ⟨hlow.setCell (p := ⟨bl, 0, none⟩) h.up.2 _, h.up, cell_grown h2 (cell_apart hg h.s (ha bs hlt.1)) h.ne.2.1, cell_grown h2 (cell_apart hg h.gr (ha bg hlt.2.1)) h.ne.2.2.1, cell_grown h2 (cell_apart hg h.v (ha bv hlt.2.2.1)) h.ne.2.2.2,
    RowIs.other_set hr h.ne.1.2.2.2 _ _, h.len, RowIs.set hb 0 v9, ho.set hlt.2.2.2.1, h.ne, by rw [size_setCell]; exact Nat.le_trans h.sz hg.size, h.lt⟩
end
def FnPost (w0 : World) (bs bg bv bl sg base p n : Nat) (s : List Nat × List Nat) (r : Ending) (w' : World) : Prop :=
  r = .returned (.tuple #[]) ∧ ∃ vl, FnAt w0 w' bs bg bv bl sg base p n s.1 vl s.2
theorem fn_seen {w0 w : World} {bs bg bv bl sg base p n : Nat} {g : List Nat} {vl : Value} {l : List Nat} (h : FnAt w0 w bs bg bv bl sg base p n g vl l) {m : Nat} (hm : m < n) (hs : val g m ≠ 0) :
    Calls Try.prog 66 #[.int .i64 m, .pointer (some ⟨bs, 0, none⟩), .pointer (some ⟨bg, 0, none⟩), .pointer (some ⟨bv, 0, none⟩), .pointer (some ⟨bl, 0, none⟩)] w (FnPost w0 bs bg bv bl sg base p n (g, l)) := by
  have c1 := h.s
  have c2 := h.row.at_ (i := m) (by rw [h.len]; exact hm)
  rw [decide_eq_true hs] at c2
  have H := Lib.hid h
  clear h
  go_enter Try.func66, Try.ntmps66
  go_wp2
  refine bodyPost_ret (v := .tuple #[]) (by simp [results, Try.results66, go_sem]) rfl ?_
  exact ⟨rfl, _, H.out⟩
set_option maxHeartbeats 1600000 in
theorem fn_any {w0 : World} {bs bg bv bl sg base p n : Nat} {A B : Nat → List Nat} (hG : GOk w0 p n A B) : ∀ (k : Nat) (g l : List Nat) (vl : Value) (m : Nat) (w : World), FnAt w0 w bs bg bv bl sg base p n g vl l → m < n → zeros g ≤ k → l.length + zeros g ≤ 4096 →
    Calls Try.prog 66 #[.int .i64 m, .pointer (some ⟨bs, 0, none⟩), .pointer (some ⟨bg, 0, none⟩), .pointer (some ⟨bv, 0, none⟩), .pointer (some ⟨bl, 0, none⟩)] w (FnPost w0 bs bg bv bl sg base p n (visitF A 1 k (g, l) m)) := by
  intro k
  induction k with
  | zero =>
    intro g l vl m w h hm hz hll
    refine fn_seen h hm (fun e => ?_)
    have := zeros_set (c := 1) e (by decide)
    omega
  | succ k ih =>
    intro g l vl m w h hm hz hll
    by_cases hs : val g m ≠ 0
    · rw [visit_seen _ _ _ hs]
      exact fn_seen h hm hs
    · have h0 : val g m = 0 := by simpa using hs
      have c1 := h.s
      have c2 := h.row.at_ (i := m) (by rw [h.len]; exact hm)
      rw [decide_eq_false hs] at c2
      have f2 := RowIs.free h.row m
      have H1 := Lib.hid (h.mark m)
      obtain ⟨hn, ga, gb, c0, -, hra, -⟩ := hG.at_
      obtain ⟨v, hv1, hv2⟩ := hra m hm
      obtain ⟨a, ca, rfl, -⟩ := hv2.form
      have c3 := H1.out.gr
      have c4 := cellL c0 H1.out.low
      have c5 := cellL hv1 H1.out.low
      have Hrow := Lib.hid hv2
      have hzs := zeros_set (c := 1) h0 (by decide)
      have Hz : Hid (zeros (g.set m 1) ≤ k) := by show _ ≤ _; omega
      have Hll : Hid (l.length + zeros (g.set m 1) + 1 ≤ 4096) := by show _ ≤ _; omega
      have Hih := Lib.hid ih
      have HG := Lib.hid hG
      have e0 : visitF A 1 (k + 1) (g, l) m = (((A m).foldl (fun st q => visitF A 1 k st q) (g.set m 1, l)).1, ((A m).foldl (fun st q => visitF A 1 k st q) (g.set m 1, l)).2 ++ [m]) := by
        conv => lhs; unfold visitF
        rw [if_neg (by simpa using h0)]
      rw [e0]
      have Hm := Lib.hid hm
      have hmi : (m : Int) < (n : Int) := by omega
      have hal : (A m).length ≤ 4096 := hG.la m
      clear h hv1 hv2 ih hz hs h0 e0 hzs hll hG hra c0
      go_enter Try.func66, Try.ntmps66
      go_upto_region 2 with fail
      obtain ⟨w1, hw1⟩ : ∃ w1, w.setCell ⟨sg, m, none⟩ (.bool true) = w1 := ⟨_, rfl⟩
      rw [hw1] at H1 c3 c4 c5 ⊢
      clear hw1 c1 c2 f2
      go_wp2
      go_loopg [23] (A m).length (fun gk iv wr => ∃ j : Nat, Hid (j + gk = (A m).length) ∧ iv = .int .i64 j ∧ Hid (∃ vl, FnAt w0 wr bs bg bv bl sg base p n (((A m).take j).foldl (fun st q => visitF A 1 k st q) (g.set m 1, l)).1 vl (((A m).take j).foldl (fun st q => visitF A 1 k st q) (g.set m 1, l)).2))
      case atStart => exact ⟨0, Nat.zero_add _, rfl, vl, H1.out⟩
      case round =>
        obtain ⟨j, Hj, rfl, HR⟩ := hrel
        obtain ⟨vl1, hR⟩ := HR.out
        have hsub : ∀ y ∈ (A m).take j, y < n := fun y hy => HG.out.a m y (List.mem_of_mem_take hy)
        have hvz := visits_vis (c := 1) (by decide) HG.out.a k ((A m).take j) (g.set m 1) l (by have := H1.out.len; exact this) Hz.out hsub
        by_cases hlt : j < (A m).length
        · obtain ⟨x, hx⟩ : ∃ x, (A m)[j]? = some x := ⟨_, List.getElem?_eq_getElem hlt⟩
          have hst : ((A m).take (j + 1)).foldl (fun st q => visitF A 1 k st q) (g.set m 1, l) = visitF A 1 k (((A m).take j).foldl (fun st q => visitF A 1 k st q) (g.set m 1, l)) x := by
            rw [List.take_add_one, hx, List.foldl_append]; rfl
          have hbnd : (((A m).take j).foldl (fun st q => visitF A 1 k st q) (g.set m 1, l)).2.length + zeros (((A m).take j).foldl (fun st q => visitF A 1 k st q) (g.set m 1, l)).1 ≤ 4096 := by
            have h1 := fold_size (visit_size (adj := A) (c := 1) (by decide) k) ((A m).take j) (g.set m 1, l)
            have h2 := Hll.out
            dsimp only at h1
            omega
          have hzz := hvz.zer
          generalize ((A m).take j).foldl (fun st q => visitF A 1 k st q) (g.set m 1, l) = S at hR hvz hst hbnd hzz
          obtain ⟨g1, l1⟩ := S
          dsimp only at hR hbnd hzz
          obtain ⟨ag, ao, rfl, hca⟩ := ((Hrow.out.later hR.low).at_ hx)
          have d1 := hca 0 _ rfl
          simp only [kNat, Nat.mul_one, Nat.add_zero] at d1
          have d2 := hR.v
          have hxn : x < n := HG.out.a m x (List.mem_of_getElem? hx)
          have Hc := Lib.hid (Hih.out g1 l1 vl1 x wr hR hxn (Nat.le_trans hzz Hz.out) hbnd)
          rw [← hst] at Hc
          have Hlt := Lib.hid hlt
          have hli : (j : Int) < ((A m).length : Int) := by omega
          have hjs : j < 4096 := by omega
          clear hst hlt hR hvz hbnd hzz hca hx HR hsub
          go_wp2_with fail
          refine Hc.out.mono ?_
          rintro r w2 ⟨rfl, vl2, hR2⟩
          have HR2 : Hid (∃ vl, FnAt w0 w2 bs bg bv bl sg base p n (((A m).take (j + 1)).foldl (fun st q => visitF A 1 k st q) (g.set m 1, l)).1 vl (((A m).take (j + 1)).foldl (fun st q => visitF A 1 k st q) (g.set m 1, l)).2) := ⟨vl2, hR2⟩
          clear hR2 d1 d2 Hc
          go_wp2
          go_roundg ((A m).length - (j + 1))
          case measure => have := Hj.out; have := Hlt.out; omega
          case rel => exact ⟨j + 1, by have := Hj.out; have := Hlt.out; show _ = _; omega, by go_num, HR2⟩
        · have hli : ¬ (j : Int) < ((A m).length : Int) := by omega
          rw [List.take_of_length_le (by omega)] at hR hvz
          have hbnd : ((A m).foldl (fun st q => visitF A 1 k st q) (g.set m 1, l)).2.length + 1 ≤ 4096 := by
            have h1 := fold_size (visit_size (adj := A) (c := 1) (by decide) k) (A m) (g.set m 1, l)
            have h2 := Hll.out
            dsimp only at h1
            omega
          obtain ⟨⟨g1, l1⟩, hS⟩ : ∃ S, (A m).foldl (fun st q => visitF A 1 k st q) (g.set m 1, l) = S := ⟨_, rfl⟩
          rw [hS] at hR hvz hbnd
          have HS := Lib.hid hS
          dsimp only at hR hbnd
          have d1 := hR.box.cell (i := 0) rfl
          have HO := Lib.hid hR
          obtain ⟨la, lc, rfl, -⟩ := hR.own.row.form
          have Hb : Hid (l1.length + 1 ≤ 1000000) := by show _ ≤ _; omega
          have Hsz : Hid (base ≤ wr.heap.size) := hR.sz
          clear hR hvz hbnd HR hlt hsub hS
          go_wp2_with (first
            | (at_builtin; refine wpList_append_one (K := kNat) rfl _ _ rfl base (.slice la l1.length lc) l1 rfl HO.out.own m _ _ rfl rfl Hb.out Hsz.out ?_; intro v9 w9 ho9 hg9 hat9; obtain ⟨a9, m9, c9, rfl⟩ : (∃ a m c, v9 = Value.slice a m c) := (by obtain ⟨a, c, h, -⟩ := (OwnK.row ho9).form; exact ⟨a, _, c, h⟩); have HR9 := Lib.hid (HO.out.put hg9 ho9); have e1 := cell_apart hg9 (HO.out.box.cell (i := 0) rfl) (fun e => by have h1 := (HO.out.own.lt e).1; have h2 := HO.out.lt; omega); have e2 := RowIs.free (RowIs.kept HO.out.box (hg9.block bl HO.out.box.lt (fun e => by have h1 := (HO.out.own.lt e.symm).1; have h2 := HO.out.lt; omega))) 0; clear ho9 hg9 hat9)
            | go_in)
          refine bodyPost_ret (v := .tuple #[]) (by simp [results, Try.results66, go_sem]) rfl ?_
          exact ⟨rfl, _, by rw [HS.out]; exact HR9.out⟩
theorem finished_any {w : World} {p n : Nat} {A B : Nat → List Nat} (hG : GOk w p n A B) : Calls Try.prog 51 #[.pointer (some ⟨p, 0, none⟩)] w fun r w' => ∃ v, r = .returned v ∧ OwnK kNat w.heap.size w' v (finishedF A n) ∧ Below w.heap.size w w' := by
  have HG := Lib.hid hG
  obtain ⟨hn, ga, gb, c0, -⟩ := hG.at_
  have Hc0 := Lib.hid c0
  have hmk := run_make_row' (P := Try.prog) 78 4 (.bool false) 1 Try.underlying78 (by kernel_rfl) rfl .i64 .i64 n (by omega) (by omega)
  have d0 := cellL c0 (Below.alloc (Below.refl w.heap.size w) (Nat.le_refl _) (.cells #[.pointer (some ⟨p, 0, none⟩)] 25))
  have d1 := cellL d0 (Below.alloc (Below.refl _ _) (Nat.le_refl _) (.cells #[.slice none 0 0] 30))
  clear hG c0
  go_enter Try.func51, Try.ntmps51
  go_upto_region 5 with fail
  obtain ⟨x1, hx1⟩ : ∃ x1, w.alloc (.cells #[.pointer (some ⟨p, 0, none⟩)] 25) = x1 := ⟨_, rfl⟩
  have b1 : Below w.heap.size w x1 := by rw [← hx1]; exact (Below.refl _ _).alloc (Nat.le_refl _) _
  have r1 : RowIs x1 (w.heap.size) 25 [.pointer (some ⟨p, 0, none⟩)] := by rw [← hx1]; exact new_row _ _ _
  have z1 : x1.heap.size = w.heap.size + 1 := by rw [← hx1, World.size_alloc]
  obtain ⟨x2, hx2⟩ : ∃ x2, x1.alloc (.cells #[.slice none 0 0] 30) = x2 := ⟨_, rfl⟩
  have b2 : Below x1.heap.size x1 x2 := by rw [← hx2]; exact (Below.refl _ _).alloc (Nat.le_refl _) _
  have r2 : RowIs x2 (w.heap.size + 1) 30 [.slice none 0 0] := by rw [← hx2, ← z1]; exact new_row _ _ _
  have z2 : x2.heap.size = w.heap.size + 1 + 1 := by rw [← hx2, World.size_alloc, z1]
  obtain ⟨x3, hx3⟩ : ∃ x3, x2.alloc (.cells (madeCells #[.bool false] n) 4) = x3 := ⟨_, rfl⟩
  have b3 : Below x2.heap.size x2 x3 := by rw [← hx3]; exact (Below.refl _ _).alloc (Nat.le_refl _) _
  have r3 : RowIs x3 (w.heap.size + 1 + 1) 4 (List.replicate n (.bool false)) := by rw [← hx3, ← z2]; exact made_row _ _ _ _
  have z3 : x3.heap.size = w.heap.size + 1 + 1 + 1 := by rw [← hx3, World.size_alloc, z2]
  obtain ⟨x4, hx4⟩ : ∃ x4, x3.alloc (.cells #[.slice (some ⟨w.heap.size + 1 + 1, 0, none⟩) n n] 78) = x4 := ⟨_, rfl⟩
  have b4 : Below x3.heap.size x3 x4 := by rw [← hx4]; exact (Below.refl _ _).alloc (Nat.le_refl _) _
  have r4 : RowIs x4 (w.heap.size + 1 + 1 + 1) 78 [.slice (some ⟨w.heap.size + 1 + 1, 0, none⟩) n n] := by rw [← hx4, ← z3]; exact new_row _ _ _
  have z4 : x4.heap.size = w.heap.size + 1 + 1 + 1 + 1 := by rw [← hx4, World.size_alloc, z3]
  obtain ⟨x5, hx5⟩ : ∃ x5, x4.alloc (.cells #[.func (.func 66) #[] #[.pointer (some ⟨w.heap.size + 1 + 1 + 1, 0, none⟩), .pointer (some ⟨w.heap.size, 0, none⟩), .pointer (some ⟨w.heap.size + 1 + 1 + 1 + 1, 0, none⟩), .pointer (some ⟨w.heap.size + 1, 0, none⟩)]] 102) = x5 := ⟨_, rfl⟩
  have b5 : Below x4.heap.size x4 x5 := by rw [← hx5]; exact (Below.refl _ _).alloc (Nat.le_refl _) _
  have r5 : RowIs x5 (w.heap.size + 1 + 1 + 1 + 1) 102 [.func (.func 66) #[] #[.pointer (some ⟨w.heap.size + 1 + 1 + 1, 0, none⟩), .pointer (some ⟨w.heap.size, 0, none⟩), .pointer (some ⟨w.heap.size + 1 + 1 + 1 + 1, 0, none⟩), .pointer (some ⟨w.heap.size + 1, 0, none⟩)]] := by rw [← hx5, ← z4]; exact new_row _ _ _
  have z5 : x5.heap.size = w.heap.size + 1 + 1 + 1 + 1 + 1 := by rw [← hx5, World.size_alloc, z4]
  rw [hx1, hx2, hx3, hx4, hx5]
  obtain ⟨s0, hs0⟩ : ∃ s, w.heap.size = s := ⟨_, rfl⟩
  have H0 : Hid (FnAt w x5 (s0 + 1 + 1 + 1) s0 (s0 + 1 + 1 + 1 + 1) (s0 + 1) (s0 + 1 + 1) (s0 + 1 + 1 + 1 + 1 + 1) p n (List.replicate n 0) (.slice none 0 0) []) := by
    rw [hs0] at r1 r2 r3 r4 r5 z5
    refine ⟨(((b1.trans (b2.mono (by omega))).trans (b3.mono (by omega))).trans (b4.mono (by omega))).trans (b5.mono (by omega)), by omega, (r4.later b5).cell rfl, ((((r1.later b2).later b3).later b4).later b5).cell rfl, r5.cell rfl, ?_, by simp, ((r2.later b3).later b4).later b5, OwnK.nil _ _, by omega, by omega, by omega⟩
    have := (r3.later b4).later b5
    unfold BoolRow
    rw [List.map_replicate]
    exact this
  rw [hs0]
  have Hs := Lib.hid hs0
  clear hmk hx1 hx2 hx3 hx4 hx5 z1 z2 z3 z4 z5 b1 b2 b3 b4 b5 r1 r2 r3 r4 r5 d0 d1 hs0
  have e1 := H0.out.gr
  have e2 := cellL Hc0.out H0.out.low
  go_wp2
  go_loopg [19] n (fun gk iv wr => ∃ j : Nat, Hid (j + gk = n) ∧ iv = .int .i64 j ∧ Hid (∃ vl, FnAt w wr (s0 + 1 + 1 + 1) s0 (s0 + 1 + 1 + 1 + 1) (s0 + 1) (s0 + 1 + 1) (s0 + 1 + 1 + 1 + 1 + 1) p n ((List.range j).foldl (fun st m => visitF A 1 n st m) (List.replicate n 0, [])).1 vl ((List.range j).foldl (fun st m => visitF A 1 n st m) (List.replicate n 0, [])).2))
  case atStart => exact ⟨0, Nat.zero_add _, rfl, _, H0.out⟩
  case round =>
    clear e1 e2
    obtain ⟨j, Hj, rfl, HR⟩ := hrel
    obtain ⟨vl1, hR⟩ := HR.out
    have hbnd := fold_size (adj := A) (c := 1) (visit_size (by decide) n) (List.range j) (List.replicate n 0, [])
    have hz0 : zeros (List.replicate n 0) ≤ n := Nat.le_trans (zeros_le _) (by simp)
    by_cases hlt : j < n
    · have hst : (List.range (j + 1)).foldl (fun st m => visitF A 1 n st m) (List.replicate n 0, []) = visitF A 1 n ((List.range j).foldl (fun st m => visitF A 1 n st m) (List.replicate n 0, [])) j := by
        rw [List.range_succ, List.foldl_append]; rfl
      have hvz := (visits_vis (c := 1) (by decide) HG.out.a n (List.range j) (List.replicate n 0) [] (by simp) hz0 (fun y hy => by have := List.mem_range.1 hy; omega)).zer
      obtain ⟨⟨g1, l1⟩, hS⟩ : ∃ S, (List.range j).foldl (fun st m => visitF A 1 n st m) (List.replicate n 0, []) = S := ⟨_, rfl⟩
      rw [hS] at hR hbnd hst hvz
      dsimp only at hR hbnd hvz
      have Hc := Lib.hid (fn_any HG.out n g1 l1 vl1 j wr hR hlt (Nat.le_trans hvz hz0) (by simp at hbnd; omega))
      rw [← hst] at Hc
      have d2 := hR.v
      have hli : (j : Int) < (n : Int) := by omega
      have Hlt := Lib.hid hlt
      clear hst hvz hS hbnd hR HR hlt hz0
      go_wp2_with fail
      refine Hc.out.mono ?_
      rintro r w2 ⟨rfl, vl2, hR2⟩
      have HR2 : Hid (∃ vl, FnAt w w2 (s0 + 1 + 1 + 1) s0 (s0 + 1 + 1 + 1 + 1) (s0 + 1) (s0 + 1 + 1) (s0 + 1 + 1 + 1 + 1 + 1) p n ((List.range (j + 1)).foldl (fun st m => visitF A 1 n st m) (List.replicate n 0, [])).1 vl ((List.range (j + 1)).foldl (fun st m => visitF A 1 n st m) (List.replicate n 0, [])).2) := ⟨vl2, hR2⟩
      clear hR2 d2 Hc
      go_wp2
      go_roundg (n - (j + 1))
      case measure => have := Hj.out; have := Hlt.out; omega
      case rel => exact ⟨j + 1, by have := Hj.out; have := Hlt.out; show _ = _; omega, by go_num, HR2⟩
    · have hli : ¬ (j : Int) < (n : Int) := by omega
      obtain rfl : n = j := by have := Hj.out; omega
      have d1 := hR.box.cell (i := 0) rfl
      obtain ⟨la, lc, rfl, -⟩ := hR.own.row.form
      have HR2 := Lib.hid hR
      clear hR hbnd hlt hz0
      go_wp2
      go_ret
      refine ⟨_, rfl, ?_, HR2.out.low⟩
      have := HR2.out.own.mono (base' := w.heap.size) (by have := Hs.out; omega)
      exact this
end Go.Proofs.Yteiddebjbiadbaa
