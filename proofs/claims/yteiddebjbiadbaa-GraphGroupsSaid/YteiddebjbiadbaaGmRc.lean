/- law 08: the reference's Components. (printed by wip/gen_gmrc.py) -/
import Derived.Test.YteiddebjbiadbaaGmLs
import Derived.Test.YteiddebjbiadbaaGmZ
import Derived.Test.YteiddebjbiadbaaGmV
namespace Go.Proofs.Yteiddebjbiadbaa
open Go.RowKit Gr
attribute [local go_sem ↓] Go.wp_at_zero Go.wp_at_succ

structure RkAt (w W : World) (s bd sb n : Nat) (gv vb : Value) (bs : List Ed) (D : List Nat) : Prop where
  low : Below w.heap.size w W
  box : RowIs W s 27 [.int .i64 (n : Int), gv]
  bbox : RowIs W sb 27 [.int .i64 (n : Int), vb]
  brow : OwnK kE (bd + 1) W vb (bs.map ofEd)
  bown : ∀ k, vb.ownBlock = some k → k < sb
  done : BoolRow W bd D
  len : D.length = n
  ne : s < bd ∧ bd < sb ∧ w.heap.size ≤ bd
/-- Nothing but the block bd and what is new was touched. -/
structure Fr (bd : Nat) (W W' : World) : Prop where
  le : W.heap.size ≤ W'.heap.size
  keep : ∀ k, k < W.heap.size → k ≠ bd → W'.heap[k]? = W.heap[k]?
theorem OwnK.keptH {α : Type} {K : KindK α} {base : Nat} {w w' : World} {v : Value} {xs : List α} (h : OwnK K base w v xs) (hk : ∀ k, v.ownBlock = some k → w'.heap[k]? = w.heap[k]?) : OwnK K base w' v xs := by
  obtain ⟨h1, h2⟩ := h
  refine ⟨h1, ?_⟩
  rcases h2 with h2 | ⟨g, cap, cur, hv, hgb, hh, r⟩
  · exact .inl h2
  · exact .inr ⟨g, cap, cur, hv, hgb, (hk g (by rw [hv]; rfl)).trans hh, r⟩
section
variable {w W W' : World} {s bd sb n : Nat} {gv vb : Value} {bs : List Ed} {D : List Nat}
theorem RkAt.fr (h : RkAt w W s bd sb n gv vb bs D) (hf : Fr bd W W') (hl : Below w.heap.size w W') {D' : List Nat} (hd : BoolRow W' bd D') (hn : D'.length = n) : RkAt w W' s bd sb n gv vb bs D' := by
  refine ⟨hl, RowIs.kept h.box (hf.keep _ (RowIs.lt h.box) (by have := h.ne; omega)), RowIs.kept h.bbox (hf.keep _ (RowIs.lt h.bbox) (by have := h.ne; omega)), h.brow.keptH (fun k hk => hf.keep k (h.brow.lt hk).2 (by have := (h.brow.lt hk).1; omega)), h.bown, hd, hn, h.ne⟩
theorem Fr.of_below (h : Below W.heap.size W W') : Fr bd W W' := ⟨h.size, fun k hk _ => h.block k hk⟩
theorem RkAt.later (h : RkAt w W s bd sb n gv vb bs D) (hb : Below W.heap.size W W') : RkAt w W' s bd sb n gv vb bs D :=
  h.fr (Fr.of_below hb) (h.low.trans (hb.mono h.low.size)) (RowIs.later h.done hb) h.len
theorem Fr.grown {w2 : World} {row : Option Nat} (h : Fr bd W W') (hg : W'.grownBy w2 row) (hr : ∀ k, row = some k → W.heap.size ≤ k) : Fr bd W w2 :=
  ⟨Nat.le_trans h.le hg.size, fun k hk hne => (hg.block k (Nat.lt_of_lt_of_le hk h.le) (fun e => by have := hr k e.symm; omega)).trans (h.keep k hk hne)⟩
theorem Fr.mark (h : Fr bd W W') (i : Nat) (u : Value) : Fr bd W (W'.setCell ⟨bd, i, none⟩ u) :=
  ⟨by rw [size_setCell]; exact h.le, fun k hk hne => (Below.heap_setCell W' ⟨bd, i, none⟩ u k hne).trans (h.keep k hk hne)⟩
/-- The groups so far. -/
structure OutAt (bd sb : Nat) (W : World) (ov : Value) (rows : List (Option Addr × Nat × Nat)) (gs : List (List Nat)) : Prop where
  own : OwnK kRow (sb + 1) W ov rows
  len : rows.length = gs.length
  grp : ∀ (j : Nat) (e : Option Addr × Nat × Nat) (l : List Nat), rows[j]? = some e → gs[j]? = some l → RowK kNat W (.slice e.1 e.2.1 e.2.2) l
  app : ∀ (j : Nat) (e : Option Addr × Nat × Nat), rows[j]? = some e → ∀ k, (Value.slice e.1 e.2.1 e.2.2).ownBlock = some k → sb < k ∧ k < W.heap.size ∧ ov.ownBlock ≠ some k
  lt : bd < sb
theorem OutAt.fr {ov : Value} {rows : List (Option Addr × Nat × Nat)} {gs : List (List Nat)} (h : OutAt bd sb W ov rows gs) (hf : Fr bd W W') : OutAt bd sb W' ov rows gs :=
  ⟨h.own.keptH (fun k hk => hf.keep k (h.own.lt hk).2 (by have := (h.own.lt hk).1; have := h.lt; omega)), h.len,
   fun j e l he hl => (h.grp j e l he hl).keptC (fun k hk => by have q := h.app j e he k hk; have := h.lt; exact hf.keep k q.2.1 (by omega)),
   fun j e he k hk => by have q := h.app j e he k hk; exact ⟨q.1, Nat.lt_of_lt_of_le q.2.1 hf.le, q.2.2⟩, h.lt⟩
theorem OutAt.push {ov ov' : Value} {rows : List (Option Addr × Nat × Nat)} {gs : List (List Nat)} {e : Option Addr × Nat × Nat} {l : List Nat} (h : OutAt bd sb W ov rows gs) (hr : RowK kNat W (.slice e.1 e.2.1 e.2.2) l) (hk : ∀ k, (Value.slice e.1 e.2.1 e.2.2).ownBlock = some k → sb < k ∧ k < W.heap.size ∧ ov.ownBlock ≠ some k)
    (ho : OwnK kRow (sb + 1) W' ov' (rows ++ [e])) (hg : W.grownBy W' ov.ownBlock) (hv : ov'.ownBlock = ov.ownBlock ∨ ov'.ownBlock = some (W.heap.size + 1)) : OutAt bd sb W' ov' (rows ++ [e]) (gs ++ [l]) := by
  have key : ∀ (j : Nat) (x : Option Addr × Nat × Nat), (rows ++ [e])[j]? = some x → ∀ k, (Value.slice x.1 x.2.1 x.2.2).ownBlock = some k → sb < k ∧ k < W.heap.size ∧ ov.ownBlock ≠ some k := fun j x hx => by
    rcases (by omega : j < rows.length ∨ rows.length ≤ j) with q | q
    · rw [List.getElem?_append_left q] at hx; exact h.app j x hx
    · rw [List.getElem?_append_right q] at hx
      cases hjr : j - rows.length with
      | zero =>
        rw [hjr] at hx
        obtain rfl : e = x := by simpa using hx
        exact hk
      | succ i => rw [hjr] at hx; simp at hx
  refine ⟨ho, by rw [List.length_append, List.length_append, h.len]; rfl, fun j x y hx hy => ?_, fun j x hx k hkk => ?_, h.lt⟩
  · have hkeep : ∀ k, (Value.slice x.1 x.2.1 x.2.2).ownBlock = some k → W'.heap[k]? = W.heap[k]? := fun k hkk => by
      have q := key j x hx k hkk
      exact hg.block k q.2.1 (fun e => q.2.2 e.symm)
    rcases (by omega : j < rows.length ∨ rows.length ≤ j) with q | q
    · rw [List.getElem?_append_left q] at hx
      rw [List.getElem?_append_left (by rw [← h.len]; exact q)] at hy
      exact (h.grp j x y hx hy).keptC hkeep
    · rw [List.getElem?_append_right q] at hx
      rw [List.getElem?_append_right (by rw [← h.len]; exact q)] at hy
      rw [← h.len] at hy
      cases hjr : j - rows.length with
      | zero =>
        rw [hjr] at hx hy
        obtain rfl : e = x := by simpa using hx
        obtain rfl : l = y := by simpa using hy
        exact hr.keptC hkeep
      | succ i => rw [hjr] at hx; simp at hx
  · have q := key j x hx k hkk
    refine ⟨q.1, Nat.lt_of_lt_of_le q.2.1 hg.size, ?_⟩
    rcases hv with e | e
    · rw [e]; exact q.2.2
    · rw [e]; intro e2; cases e2; omega
end
/-- The list of groups grew. -/
theorem rc_grown {w W W' : World} {s bd sb n : Nat} {gv vb ov : Value} {bs : List Ed} {D : List Nat} {rows : List (Option Addr × Nat × Nat)} (h : RkAt w W s bd sb n gv vb bs D) (ho : OwnK kRow (sb + 1) W ov rows) (hg : W.grownBy W' ov.ownBlock) : RkAt w W' s bd sb n gv vb bs D := by
  have hk : ∀ k, k ≤ sb → some k ≠ ov.ownBlock := fun k hk e => by have := (ho.lt e.symm).1; omega
  have hne := h.ne
  refine ⟨below_grow h.low hg (Nat.le_refl _) (fun k e => by have := (ho.lt e).1; omega), RowIs.kept h.box (hg.block _ (RowIs.lt h.box) (hk _ (by omega))), RowIs.kept h.bbox (hg.block _ (RowIs.lt h.bbox) (hk _ (Nat.le_refl _))), h.brow.keptH (fun k e => hg.block k (h.brow.lt e).2 (hk k (Nat.le_of_lt (h.bown k e)))), h.bown, RowIs.kept h.done (hg.block _ (RowIs.lt h.done) (hk _ (by omega))), h.len, h.ne⟩
theorem nodes_one {n a : Nat} (h : a < n) : nodesF n [(a : Int)] = [a] := by
  unfold nodesF
  have hna : nodeB n (a : Int) = true := nodeB_iff.2 (by omega)
  simp [hna]
theorem both_succ (g k : List Nat) (i : Nat) : bothL g k (i + 1) = bothL g k i ++ if val g i ≠ 0 ∧ val k i ≠ 0 then [i] else [] := by
  unfold bothL
  rw [List.range_succ, List.filter_append]
  by_cases q : val g i ≠ 0 ∧ val k i ≠ 0
  · rw [if_pos q]; simp [q.1, q.2]
  · rw [if_neg q]
    by_cases q1 : val g i = 0
    · simp [q1]
    · have q2 : val k i = 0 := Classical.byContradiction (fun q2 => q ⟨q1, q2⟩)
      simp [q2]
set_option linter.unusedSimpArgs false in
set_option maxRecDepth 100000 in
set_option maxHeartbeats 3200000 in
theorem rComp_any {w : World} {n : Nat} {v : Value} {es : List Ed} (h : RowK kE w v (es.map ofEd)) (hl : es.length ≤ 65536) (hin : Ins n es) (hn : n ≤ 4096) :
    Calls Try.prog 27 #[.agg #[.int .i64 (n : Int), v]] w (CompPost w (componentsF (aft es) (bef es) n)) := by
  obtain ⟨av, cv, rfl, -⟩ := h.form
  rw [List.length_map] at h ⊢
  obtain ⟨w1, hw1⟩ : ∃ w1, w.alloc (.cells #[.int .i64 (n : Int), .slice av es.length cv] 27) = w1 := ⟨_, rfl⟩
  have b1 : Below w.heap.size w w1 := by rw [← hw1]; exact (Below.refl _ _).alloc (Nat.le_refl _) _
  have r1 : RowIs w1 w.heap.size 27 [.int .i64 (n : Int), .slice av es.length cv] := by rw [← hw1]; exact new_row _ _ _
  have z1 : w1.heap.size = w.heap.size + 1 := by rw [← hw1]; exact World.size_alloc ..
  obtain ⟨w2, hw2⟩ : ∃ w2, w1.alloc (.cells (madeCells #[.bool false] n) 4) = w2 := ⟨_, rfl⟩
  have b2 : Below w1.heap.size w1 w2 := by rw [← hw2]; exact (Below.refl _ _).alloc (Nat.le_refl _) _
  have r2 : BoolRow w2 (w.heap.size + 1) (List.replicate n 0) := by
    have h := made_row w1 (.bool false) n 4
    rw [z1, hw2] at h
    unfold BoolRow
    rw [List.map_replicate]
    exact h
  have z2 : w2.heap.size = w.heap.size + 1 + 1 := by rw [← hw2, World.size_alloc, z1]
  have hmk := run_make_row' (P := Try.prog) 78 4 (.bool false) 1 Try.underlying78 (by kernel_rfl) rfl .i64 .i64 n (by omega) (by omega)
  have HB2 : Hid (Below w.heap.size w w2) := b1.trans (b2.mono (by omega))
  have H := Lib.hid h
  have Hl := Lib.hid hl
  have Hn := Lib.hid hn
  have Hin := Lib.hid hin
  have HV := Lib.hid (rRev_any (h.later HB2.out) hl hin hn)
  have R1 := Lib.hid (r1.later b2)
  have R2 := Lib.hid r2
  have Z2 := Lib.hid z2
  have c0 := r1.cell (i := 0) rfl
  have c1 := r1.cell (i := 1) rfl
  have c0' := R1.out.cell (i := 0) rfl
  have c1' := R1.out.cell (i := 1) rfl
  clear b1 b2 r1 r2 z2 h hin
  go_enter Try.func27, Try.ntmps27
  go_upto_region 3 with fail
  clear hw1 hw2 hmk c0 c1 z1
  obtain ⟨s, hs⟩ : ∃ s, w.heap.size = s := ⟨_, rfl⟩
  have Hs := Lib.hid hs
  rw [hs] at R1 R2 Z2 c0' c1' ⊢
  clear hs
  go_wp2_with fail
  refine HV.out.mono ?_
  rintro r w3 ⟨v3, rfl, ho3, hb3⟩
  have HB3 : Hid (Below w.heap.size w w3) := HB2.out.trans (hb3.mono HB2.out.size)
  obtain ⟨a3, c4, e3, -⟩ := ho3.row.form
  obtain ⟨m3, hm3⟩ : ∃ m, ((refNew (turn es)).map ofEd).length = m := ⟨_, rfl⟩
  rw [hm3] at e3
  subst e3
  have HO3 := Lib.hid ho3
  have R1 := Lib.hid (R1.out.later hb3)
  have R2 : Hid (BoolRow w3 (s + 1) (List.replicate n 0)) := RowIs.later R2.out hb3
  have Z3 : Hid (s + 1 + 1 ≤ w3.heap.size) := by have := hb3.size; have := Z2.out; show _ ≤ _; omega
  clear hm3 ho3 hb3 HV c0' c1'
  go_upto_region 4 with fail
  obtain ⟨w4, hw4⟩ : ∃ y, w3.alloc (.cells #[.int .i64 (n : Int), .slice a3 m3 c4] 27) = y := ⟨_, rfl⟩
  have b4 : Below w3.heap.size w3 w4 := by rw [← hw4]; exact (Below.refl _ _).alloc (Nat.le_refl _) _
  have r4 : RowIs w4 w3.heap.size 27 [.int .i64 (n : Int), .slice a3 m3 c4] := by rw [← hw4]; exact new_row _ _ _
  rw [hw4]
  have HRc : Hid (RkAt w w4 s (s + 1) w3.heap.size n (.slice av es.length cv) (.slice a3 m3 c4) (refNew (turn es)) (List.replicate n 0)) :=
    ⟨HB3.out.trans (b4.mono HB3.out.size), R1.out.later b4, r4, (HO3.out.later b4).mono (by have := Z2.out; omega), fun k hk => (HO3.out.lt hk).2, RowIs.later R2.out b4, by simp, by have := Z3.out; have := Hs.out; omega⟩
  obtain ⟨sb, hsb⟩ : ∃ b, w3.heap.size = b := ⟨_, rfl⟩
  rw [hsb] at HRc Z3 ⊢
  have HOut : Hid (OutAt (s + 1) sb w4 (.slice none 0 0) [] []) := ⟨OwnK.nil _ _, rfl, fun j e l he => by simp at he, fun j e he => by simp at he, by have := HRc.out.ne; omega⟩
  obtain ⟨bd, hbd⟩ : ∃ b, s + 1 = b := ⟨_, rfl⟩
  rw [hbd] at HRc HOut ⊢
  clear hw4 b4 r4 hsb hbd R1 R2 HO3 Z2 Z3 HB3 HB2
  go_wp2
  go_loopg [3, 6] n (fun gk ov iv wr => ∃ (a : Nat) (D : List Nat) (gs : List (List Nat)) (rows : List (Option Addr × Nat × Nat)), Hid (a + gk = n) ∧ iv = .int .i64 a ∧ Hid ((List.range a).foldl (rcStep (rgroup es n)) (List.replicate n 0, []) = (D, gs) ∧ gs.length ≤ a) ∧ Hid (RkAt w wr s bd sb n (.slice av es.length cv) (.slice a3 m3 c4) (refNew (turn es)) D) ∧ Hid (OutAt bd sb wr ov rows gs))
  case atStart => exact ⟨0, _, _, _, Nat.zero_add _, rfl, ⟨rfl, Nat.zero_le _⟩, HRc, HOut⟩
  case round =>
    clear HRc HOut
    obtain ⟨a, D, gs, rows, Ha, rfl, HF, HR, HO⟩ := hrel
    have c0 := HR.out.box.cell (i := 0) rfl
    have c1 := HR.out.box.cell (i := 1) rfl
    have c2 := HR.out.bbox.cell (i := 0) rfl
    have c3 := HR.out.bbox.cell (i := 1) rfl
    by_cases hlt : a < n
    · have d1 := BoolRow.at_ HR.out.done (i := a) (by rw [HR.out.len]; exact hlt)
      have hai : (a : Int) < (n : Int) := by omega
      have has : a ≤ 4096 := by omega
      have Hlt := Lib.hid hlt
      have hst : (List.range (a + 1)).foldl (rcStep (rgroup es n)) (List.replicate n 0, []) = rcStep (rgroup es n) (D, gs) a := by
        rw [List.range_succ, List.foldl_append, HF.out.1]; rfl
      unfold rcStep at hst
      dsimp only at hst
      clear hlt
      by_cases hv : val D a ≠ 0
      · rw [if_pos hv] at hst
        have HF2 : Hid ((List.range (a + 1)).foldl (rcStep (rgroup es n)) (List.replicate n 0, []) = (D, gs) ∧ gs.length ≤ a + 1) := ⟨hst, by have := HF.out.2; omega⟩
        rw [decide_eq_true hv] at d1
        clear hv hst
        go_wp2
        go_roundg (n - (a + 1))
        case measure => have := Ha.out; have := Hlt.out; omega
        case rel => exact ⟨a + 1, D, gs, rows, by have := Ha.out; have := Hlt.out; show _ = _; omega, by go_num, HF2, HR, HO⟩
      · rw [if_neg hv] at hst
        have HF2 : Hid ((List.range (a + 1)).foldl (rcStep (rgroup es n)) (List.replicate n 0, []) = ((rgroup es n a).foldl (fun d k => d.set k 1) D, gs ++ [rgroup es n a]) ∧ (gs ++ [rgroup es n a]).length ≤ a + 1) := ⟨hst, by have := HF.out.2; rw [List.length_append, List.length_singleton]; omega⟩
        rw [decide_eq_false hv] at d1
        clear hv hst
        obtain ⟨wq, hwq⟩ : ∃ x, x = wr := ⟨_, rfl⟩
        subst hwq
        obtain ⟨A, hA⟩ : ∃ A, marksF es (n + 1) (startF n [a]) = A := ⟨_, rfl⟩
        obtain ⟨B, hB⟩ : ∃ B, marksF (refNew (turn es)) (n + 1) (startF n [a]) = B := ⟨_, rfl⟩
        have hS1 : ∀ s ∈ [a], s < n := fun s hs => by simp at hs; have := Hlt.out; omega
        have HAl : Hid (A.length = n) := by rw [← hA]; exact (marks_start Hin.out hS1).1
        have HBl : Hid (B.length = n) := by rw [← hB]; exact (marks_start (back_ins Hin.out) hS1).1
        have Hgr : Hid (rgroup es n a = bothL A B n) := by show _ = _; unfold rgroup bothL mutB; rw [hA, hB]
        have HM1 : Hid (∀ (W : World) (vf : Value), Below wq.heap.size wq W → RowK kInt W vf [(a : Int)] → Calls Try.prog 42 #[.agg #[.int .i64 (n : Int), .slice av es.length cv], vf] W fun r w' => ∃ b, r = .returned (.slice (some ⟨b, 0, none⟩) n n) ∧ BoolRow w' b A ∧ W.heap.size ≤ b ∧ Below W.heap.size W w') := fun W vf hW hr => by
          have h := marks_any (n := n) ((H.out.later HR.out.low).later hW) (by have := Hl.out; omega) Hin.out Hn.out hr (by simp)
          rw [nodes_one Hlt.out, hA] at h
          exact h
        have HM2 : Hid (∀ (W : World) (vf : Value), Below wq.heap.size wq W → RowK kInt W vf [(a : Int)] → Calls Try.prog 42 #[.agg #[.int .i64 (n : Int), .slice a3 m3 c4], vf] W fun r w' => ∃ b, r = .returned (.slice (some ⟨b, 0, none⟩) n n) ∧ BoolRow w' b B ∧ W.heap.size ≤ b ∧ Below W.heap.size W w') := fun W vf hW hr => by
          have h := marks_any (n := n) (HR.out.brow.row.later hW) (by have h1 := refNew_len (turn es); have := Hl.out; unfold turn at h1; rw [List.length_map] at h1; unfold turn; omega) (back_ins Hin.out) Hn.out hr (by simp)
          rw [nodes_one Hlt.out, hB] at h
          exact h
        clear hA hB hS1
        go_upto_region 9 with fail
        go_cut [8, 9] from 26 to 33 (fun va vb wx => ∃ sa sc, va = .slice (some ⟨sa, 0, none⟩) n n ∧ vb = .slice (some ⟨sc, 0, none⟩) n n ∧ Hid (BoolRow wx sa A ∧ BoolRow wx sc B ∧ wq.heap.size ≤ sa ∧ wq.heap.size ≤ sc) ∧ Hid (Below wq.heap.size wq wx))
        case first =>
          refine wp_region_held_drew (S := (fun W => (W.cell? ⟨s, 0, none⟩ = some (.int .i64 (n : Int)) ∧ W.cell? ⟨s, 1, none⟩ = some (.slice av es.length cv)) ∧ W.cell? ⟨sb, 0, none⟩ = some (.int .i64 (n : Int)) ∧ W.cell? ⟨sb, 1, none⟩ = some (.slice a3 m3 c4))) (by kernel_rfl) (⟨⟨c0, c1⟩, c2, c3⟩) (fun hH0 => ?_)
          have HB0 : Hid (Below wq.heap.size wq wq.drew) := (Below.refl _ _).drew
          obtain ⟨y0, hy⟩ : ∃ y, wq.drew = y := ⟨_, rfl⟩
          rw [hy] at HB0 hH0 ⊢
          clear hy
          refine wpAnyH_take (i := 0) (v := ?_) rfl (by kernel_rfl) (by kernel_rfl) (by kernel_rfl) (fun _ _ _ h => h) (Or.inl ⟨by rfl, ?_⟩) (by assumption) ?_
          rotate_left
          · (intro wx hSw; (try dsimp only at hSw); go_simp <;> with_reducible rfl)
          try simp only [Act.put, List.setIfInBounds_toArray, List.set_cons_zero, List.set_cons_succ, List.getElem_toArray, List.getElem_cons_zero, List.getElem_cons_succ]
          refine wpAnyH_take (i := 1) (v := ?_) rfl (by kernel_rfl) (by kernel_rfl) (by kernel_rfl) (fun _ _ _ h => h) (Or.inl ⟨by rfl, ?_⟩) (by assumption) ?_
          rotate_left
          · (intro wx hSw; (try dsimp only at hSw); go_simp <;> with_reducible rfl)
          try simp only [Act.put, List.setIfInBounds_toArray, List.set_cons_zero, List.set_cons_succ, List.getElem_toArray, List.getElem_cons_zero, List.getElem_cons_succ]
          refine wpAnyH_take (i := 4) (v := ?_) rfl (by kernel_rfl) (by kernel_rfl) (by kernel_rfl) (fun _ _ _ h => h) (Or.inl ⟨by rfl, ?_⟩) (by assumption) ?_
          rotate_left
          · (intro wx hSw; (try dsimp only at hSw); go_simp <;> with_reducible rfl)
          try simp only [Act.put, List.setIfInBounds_toArray, List.set_cons_zero, List.set_cons_succ, List.getElem_toArray, List.getElem_cons_zero, List.getElem_cons_succ]
          refine wpAnyH_take (i := 5) (v := ?_) rfl (by kernel_rfl) (by kernel_rfl) (by kernel_rfl) (fun _ _ _ h => h) (Or.inl ⟨by rfl, ?_⟩) (by assumption) ?_
          rotate_left
          · (intro wx hSw; (try dsimp only at hSw); go_simp <;> with_reducible rfl)
          try simp only [Act.put, List.setIfInBounds_toArray, List.set_cons_zero, List.set_cons_succ, List.getElem_toArray, List.getElem_cons_zero, List.getElem_cons_succ]
          refine wpAnyH_ready (rs := [2, 6]) (by kernel_rfl) (by simp) ?_
          refine AllReadyH.cons rfl (fun K hK => ?_) (AllReadyH.cons rfl (fun K hK => ?_) (AllReadyH.nil))
          · have hb : Below y0.heap.size y0 (y0.alloc (.cells #[.int .i64 (a : Int)] 3)) := (Below.refl _ _).alloc (Nat.le_refl _) _
            have HB1 : Hid (Below wq.heap.size wq (y0.alloc (.cells #[.int .i64 (a : Int)] 3))) := HB0.out.trans (hb.mono HB0.out.size)
            have Hr2 : Hid (RowK kInt (y0.alloc (.cells #[.int .i64 (a : Int)] 3)) (.slice (some ⟨y0.heap.size, 0, none⟩) 1 1) [(a : Int)]) := lit_int y0 [(a : Int)] _ 1 rfl rfl (by simp)
            go_simp
            refine hK.out _ _ (⟨⟨cellL hH0.1.1 hb, cellL hH0.1.2 hb⟩, cellL hH0.2.1 hb, cellL hH0.2.2 hb⟩) (fun hH1 => ?_)
            clear hK K hH0 hb
            try simp only [Act.put, List.setIfInBounds_toArray, List.set_cons_zero, List.set_cons_succ, List.getElem_toArray, List.getElem_cons_zero, List.getElem_cons_succ]
            obtain ⟨y1, hy⟩ : ∃ y, (y0.alloc (.cells #[.int .i64 (a : Int)] 3)) = y := ⟨_, rfl⟩
            rw [hy] at HB1 hH1 Hr2 ⊢
            clear hy
            obtain ⟨b2, hbb⟩ : ∃ b, y0.heap.size = b := ⟨_, rfl⟩
            rw [hbb] at Hr2 ⊢
            clear hbb
            refine wpAnyH_ready (rs := [3, 6]) (by kernel_rfl) (by simp) ?_
            refine AllReadyH.cons rfl (fun K hK => ?_) (AllReadyH.cons rfl (fun K hK => ?_) (AllReadyH.nil))
            · go_simp
              go_at_call 42
              with_reducible refine (HM1.out _ _ HB1.out Hr2.out).mono ?_
              rintro r y2 ⟨sa, rfl, hra, hsa, hb⟩
              have HB2 : Hid (Below wq.heap.size wq y2) := HB1.out.trans (hb.mono HB1.out.size)
              have Hr2 := Lib.hid (Hr2.out.later hb)
              have Ha3 := Lib.hid hra
              have Hs3 : Hid (wq.heap.size ≤ sa) := Nat.le_trans HB1.out.size hsa
              clear hra hsa
              go_wp2_with fail
              refine hK.out _ _ (⟨⟨cellL hH1.1.1 hb, cellL hH1.1.2 hb⟩, cellL hH1.2.1 hb, cellL hH1.2.2 hb⟩) (fun hH2 => ?_)
              clear hK K hH1 hb
              try simp only [Act.put, List.setIfInBounds_toArray, List.set_cons_zero, List.set_cons_succ, List.getElem_toArray, List.getElem_cons_zero, List.getElem_cons_succ]
              refine wpAnyH_ready (rs := [6]) (by kernel_rfl) (by simp) ?_
              refine AllReadyH.cons rfl (fun K hK => ?_) (AllReadyH.nil)
              have hb : Below y2.heap.size y2 (y2.alloc (.cells #[.int .i64 (a : Int)] 3)) := (Below.refl _ _).alloc (Nat.le_refl _) _
              have HB3 : Hid (Below wq.heap.size wq (y2.alloc (.cells #[.int .i64 (a : Int)] 3))) := HB2.out.trans (hb.mono HB2.out.size)
              have Ha3 : Hid (BoolRow (y2.alloc (.cells #[.int .i64 (a : Int)] 3)) _ _) := RowIs.later Ha3.out hb
              have Hr2 := Lib.hid (Hr2.out.later hb)
              have Hr6 : Hid (RowK kInt (y2.alloc (.cells #[.int .i64 (a : Int)] 3)) (.slice (some ⟨y2.heap.size, 0, none⟩) 1 1) [(a : Int)]) := lit_int y2 [(a : Int)] _ 1 rfl rfl (by simp)
              go_simp
              refine hK.out _ _ (⟨⟨cellL hH2.1.1 hb, cellL hH2.1.2 hb⟩, cellL hH2.2.1 hb, cellL hH2.2.2 hb⟩) (fun hH3 => ?_)
              clear hK K hH2 hb
              try simp only [Act.put, List.setIfInBounds_toArray, List.set_cons_zero, List.set_cons_succ, List.getElem_toArray, List.getElem_cons_zero, List.getElem_cons_succ]
              obtain ⟨y3, hy⟩ : ∃ y, (y2.alloc (.cells #[.int .i64 (a : Int)] 3)) = y := ⟨_, rfl⟩
              rw [hy] at HB3 hH3 Ha3 Hr2 Hr6 ⊢
              clear hy
              obtain ⟨b6, hbb⟩ : ∃ b, y2.heap.size = b := ⟨_, rfl⟩
              rw [hbb] at Hr6 ⊢
              clear hbb
              refine wpAnyH_ready (rs := [7]) (by kernel_rfl) (by simp) ?_
              refine AllReadyH.cons rfl (fun K hK => ?_) (AllReadyH.nil)
              go_simp
              go_at_call 42
              with_reducible refine (HM2.out _ _ HB3.out Hr6.out).mono ?_
              rintro r y4 ⟨sc, rfl, hra, hsa, hb⟩
              have HB4 : Hid (Below wq.heap.size wq y4) := HB3.out.trans (hb.mono HB3.out.size)
              have Ha3 : Hid (BoolRow y4 _ _) := RowIs.later Ha3.out hb
              have Hr2 := Lib.hid (Hr2.out.later hb)
              have Hr6 := Lib.hid (Hr6.out.later hb)
              have Ha7 := Lib.hid hra
              have Hs7 : Hid (wq.heap.size ≤ sc) := Nat.le_trans HB3.out.size hsa
              clear hra hsa
              go_wp2_with fail
              refine hK.out _ _ (⟨⟨cellL hH3.1.1 hb, cellL hH3.1.2 hb⟩, cellL hH3.2.1 hb, cellL hH3.2.2 hb⟩) (fun hH4 => ?_)
              clear hK K hH3 hb
              try simp only [Act.put, List.setIfInBounds_toArray, List.set_cons_zero, List.set_cons_succ, List.getElem_toArray, List.getElem_cons_zero, List.getElem_cons_succ]
              refine wpAnyH_take (i := 8) (v := ?_) rfl (by kernel_rfl) (by kernel_rfl) (by kernel_rfl) (fun _ _ _ h => h) (Or.inl ⟨by rfl, ?_⟩) (by assumption) ?_
              rotate_left
              · (intro wx hSw; (try dsimp only at hSw); go_simp <;> with_reducible rfl)
              try simp only [Act.put, List.setIfInBounds_toArray, List.set_cons_zero, List.set_cons_succ, List.getElem_toArray, List.getElem_cons_zero, List.getElem_cons_succ]
              refine wpAnyH_take (i := 9) (v := ?_) rfl (by kernel_rfl) (by kernel_rfl) (by kernel_rfl) (fun _ _ _ h => h) (Or.inl ⟨by rfl, ?_⟩) (by assumption) ?_
              rotate_left
              · (intro wx hSw; (try dsimp only at hSw); go_simp <;> with_reducible rfl)
              try simp only [Act.put, List.setIfInBounds_toArray, List.set_cons_zero, List.set_cons_succ, List.getElem_toArray, List.getElem_cons_zero, List.getElem_cons_succ]
              refine wpAnyH_done (by kernel_rfl) ?_ _
              go_wp2
              go_meet
              exact ⟨sa, sc, rfl, rfl, ⟨Ha3.out, Ha7.out, Hs3.out, Hs7.out⟩, HB4⟩
            · have hb : Below y1.heap.size y1 (y1.alloc (.cells #[.int .i64 (a : Int)] 3)) := (Below.refl _ _).alloc (Nat.le_refl _) _
              have HB2 : Hid (Below wq.heap.size wq (y1.alloc (.cells #[.int .i64 (a : Int)] 3))) := HB1.out.trans (hb.mono HB1.out.size)
              have Hr2 := Lib.hid (Hr2.out.later hb)
              have Hr6 : Hid (RowK kInt (y1.alloc (.cells #[.int .i64 (a : Int)] 3)) (.slice (some ⟨y1.heap.size, 0, none⟩) 1 1) [(a : Int)]) := lit_int y1 [(a : Int)] _ 1 rfl rfl (by simp)
              go_simp
              refine hK.out _ _ (⟨⟨cellL hH1.1.1 hb, cellL hH1.1.2 hb⟩, cellL hH1.2.1 hb, cellL hH1.2.2 hb⟩) (fun hH2 => ?_)
              clear hK K hH1 hb
              try simp only [Act.put, List.setIfInBounds_toArray, List.set_cons_zero, List.set_cons_succ, List.getElem_toArray, List.getElem_cons_zero, List.getElem_cons_succ]
              obtain ⟨y2, hy⟩ : ∃ y, (y1.alloc (.cells #[.int .i64 (a : Int)] 3)) = y := ⟨_, rfl⟩
              rw [hy] at HB2 hH2 Hr2 Hr6 ⊢
              clear hy
              obtain ⟨b6, hbb⟩ : ∃ b, y1.heap.size = b := ⟨_, rfl⟩
              rw [hbb] at Hr6 ⊢
              clear hbb
              refine wpAnyH_ready (rs := [3]) (by kernel_rfl) (by simp) ?_
              refine AllReadyH.cons rfl (fun K hK => ?_) (AllReadyH.nil)
              go_simp
              go_at_call 42
              with_reducible refine (HM1.out _ _ HB2.out Hr2.out).mono ?_
              rintro r y3 ⟨sa, rfl, hra, hsa, hb⟩
              have HB3 : Hid (Below wq.heap.size wq y3) := HB2.out.trans (hb.mono HB2.out.size)
              have Hr2 := Lib.hid (Hr2.out.later hb)
              have Hr6 := Lib.hid (Hr6.out.later hb)
              have Ha3 := Lib.hid hra
              have Hs3 : Hid (wq.heap.size ≤ sa) := Nat.le_trans HB2.out.size hsa
              clear hra hsa
              go_wp2_with fail
              refine hK.out _ _ (⟨⟨cellL hH2.1.1 hb, cellL hH2.1.2 hb⟩, cellL hH2.2.1 hb, cellL hH2.2.2 hb⟩) (fun hH3 => ?_)
              clear hK K hH2 hb
              try simp only [Act.put, List.setIfInBounds_toArray, List.set_cons_zero, List.set_cons_succ, List.getElem_toArray, List.getElem_cons_zero, List.getElem_cons_succ]
              refine wpAnyH_ready (rs := [7]) (by kernel_rfl) (by simp) ?_
              refine AllReadyH.cons rfl (fun K hK => ?_) (AllReadyH.nil)
              go_simp
              go_at_call 42
              with_reducible refine (HM2.out _ _ HB3.out Hr6.out).mono ?_
              rintro r y4 ⟨sc, rfl, hra, hsa, hb⟩
              have HB4 : Hid (Below wq.heap.size wq y4) := HB3.out.trans (hb.mono HB3.out.size)
              have Ha3 : Hid (BoolRow y4 _ _) := RowIs.later Ha3.out hb
              have Hr2 := Lib.hid (Hr2.out.later hb)
              have Hr6 := Lib.hid (Hr6.out.later hb)
              have Ha7 := Lib.hid hra
              have Hs7 : Hid (wq.heap.size ≤ sc) := Nat.le_trans HB3.out.size hsa
              clear hra hsa
              go_wp2_with fail
              refine hK.out _ _ (⟨⟨cellL hH3.1.1 hb, cellL hH3.1.2 hb⟩, cellL hH3.2.1 hb, cellL hH3.2.2 hb⟩) (fun hH4 => ?_)
              clear hK K hH3 hb
              try simp only [Act.put, List.setIfInBounds_toArray, List.set_cons_zero, List.set_cons_succ, List.getElem_toArray, List.getElem_cons_zero, List.getElem_cons_succ]
              refine wpAnyH_take (i := 8) (v := ?_) rfl (by kernel_rfl) (by kernel_rfl) (by kernel_rfl) (fun _ _ _ h => h) (Or.inl ⟨by rfl, ?_⟩) (by assumption) ?_
              rotate_left
              · (intro wx hSw; (try dsimp only at hSw); go_simp <;> with_reducible rfl)
              try simp only [Act.put, List.setIfInBounds_toArray, List.set_cons_zero, List.set_cons_succ, List.getElem_toArray, List.getElem_cons_zero, List.getElem_cons_succ]
              refine wpAnyH_take (i := 9) (v := ?_) rfl (by kernel_rfl) (by kernel_rfl) (by kernel_rfl) (fun _ _ _ h => h) (Or.inl ⟨by rfl, ?_⟩) (by assumption) ?_
              rotate_left
              · (intro wx hSw; (try dsimp only at hSw); go_simp <;> with_reducible rfl)
              try simp only [Act.put, List.setIfInBounds_toArray, List.set_cons_zero, List.set_cons_succ, List.getElem_toArray, List.getElem_cons_zero, List.getElem_cons_succ]
              refine wpAnyH_done (by kernel_rfl) ?_ _
              go_wp2
              go_meet
              exact ⟨sa, sc, rfl, rfl, ⟨Ha3.out, Ha7.out, Hs3.out, Hs7.out⟩, HB4⟩
          · have hb : Below y0.heap.size y0 (y0.alloc (.cells #[.int .i64 (a : Int)] 3)) := (Below.refl _ _).alloc (Nat.le_refl _) _
            have HB1 : Hid (Below wq.heap.size wq (y0.alloc (.cells #[.int .i64 (a : Int)] 3))) := HB0.out.trans (hb.mono HB0.out.size)
            have Hr6 : Hid (RowK kInt (y0.alloc (.cells #[.int .i64 (a : Int)] 3)) (.slice (some ⟨y0.heap.size, 0, none⟩) 1 1) [(a : Int)]) := lit_int y0 [(a : Int)] _ 1 rfl rfl (by simp)
            go_simp
            refine hK.out _ _ (⟨⟨cellL hH0.1.1 hb, cellL hH0.1.2 hb⟩, cellL hH0.2.1 hb, cellL hH0.2.2 hb⟩) (fun hH1 => ?_)
            clear hK K hH0 hb
            try simp only [Act.put, List.setIfInBounds_toArray, List.set_cons_zero, List.set_cons_succ, List.getElem_toArray, List.getElem_cons_zero, List.getElem_cons_succ]
            obtain ⟨y1, hy⟩ : ∃ y, (y0.alloc (.cells #[.int .i64 (a : Int)] 3)) = y := ⟨_, rfl⟩
            rw [hy] at HB1 hH1 Hr6 ⊢
            clear hy
            obtain ⟨b6, hbb⟩ : ∃ b, y0.heap.size = b := ⟨_, rfl⟩
            rw [hbb] at Hr6 ⊢
            clear hbb
            refine wpAnyH_ready (rs := [2]) (by kernel_rfl) (by simp) ?_
            refine AllReadyH.cons rfl (fun K hK => ?_) (AllReadyH.nil)
            have hb : Below y1.heap.size y1 (y1.alloc (.cells #[.int .i64 (a : Int)] 3)) := (Below.refl _ _).alloc (Nat.le_refl _) _
            have HB2 : Hid (Below wq.heap.size wq (y1.alloc (.cells #[.int .i64 (a : Int)] 3))) := HB1.out.trans (hb.mono HB1.out.size)
            have Hr6 := Lib.hid (Hr6.out.later hb)
            have Hr2 : Hid (RowK kInt (y1.alloc (.cells #[.int .i64 (a : Int)] 3)) (.slice (some ⟨y1.heap.size, 0, none⟩) 1 1) [(a : Int)]) := lit_int y1 [(a : Int)] _ 1 rfl rfl (by simp)
            go_simp
            refine hK.out _ _ (⟨⟨cellL hH1.1.1 hb, cellL hH1.1.2 hb⟩, cellL hH1.2.1 hb, cellL hH1.2.2 hb⟩) (fun hH2 => ?_)
            clear hK K hH1 hb
            try simp only [Act.put, List.setIfInBounds_toArray, List.set_cons_zero, List.set_cons_succ, List.getElem_toArray, List.getElem_cons_zero, List.getElem_cons_succ]
            obtain ⟨y2, hy⟩ : ∃ y, (y1.alloc (.cells #[.int .i64 (a : Int)] 3)) = y := ⟨_, rfl⟩
            rw [hy] at HB2 hH2 Hr6 Hr2 ⊢
            clear hy
            obtain ⟨b2, hbb⟩ : ∃ b, y1.heap.size = b := ⟨_, rfl⟩
            rw [hbb] at Hr2 ⊢
            clear hbb
            refine wpAnyH_ready (rs := [3]) (by kernel_rfl) (by simp) ?_
            refine AllReadyH.cons rfl (fun K hK => ?_) (AllReadyH.nil)
            go_simp
            go_at_call 42
            with_reducible refine (HM1.out _ _ HB2.out Hr2.out).mono ?_
            rintro r y3 ⟨sa, rfl, hra, hsa, hb⟩
            have HB3 : Hid (Below wq.heap.size wq y3) := HB2.out.trans (hb.mono HB2.out.size)
            have Hr2 := Lib.hid (Hr2.out.later hb)
            have Hr6 := Lib.hid (Hr6.out.later hb)
            have Ha3 := Lib.hid hra
            have Hs3 : Hid (wq.heap.size ≤ sa) := Nat.le_trans HB2.out.size hsa
            clear hra hsa
            go_wp2_with fail
            refine hK.out _ _ (⟨⟨cellL hH2.1.1 hb, cellL hH2.1.2 hb⟩, cellL hH2.2.1 hb, cellL hH2.2.2 hb⟩) (fun hH3 => ?_)
            clear hK K hH2 hb
            try simp only [Act.put, List.setIfInBounds_toArray, List.set_cons_zero, List.set_cons_succ, List.getElem_toArray, List.getElem_cons_zero, List.getElem_cons_succ]
            refine wpAnyH_ready (rs := [7]) (by kernel_rfl) (by simp) ?_
            refine AllReadyH.cons rfl (fun K hK => ?_) (AllReadyH.nil)
            go_simp
            go_at_call 42
            with_reducible refine (HM2.out _ _ HB3.out Hr6.out).mono ?_
            rintro r y4 ⟨sc, rfl, hra, hsa, hb⟩
            have HB4 : Hid (Below wq.heap.size wq y4) := HB3.out.trans (hb.mono HB3.out.size)
            have Ha3 : Hid (BoolRow y4 _ _) := RowIs.later Ha3.out hb
            have Hr2 := Lib.hid (Hr2.out.later hb)
            have Hr6 := Lib.hid (Hr6.out.later hb)
            have Ha7 := Lib.hid hra
            have Hs7 : Hid (wq.heap.size ≤ sc) := Nat.le_trans HB3.out.size hsa
            clear hra hsa
            go_wp2_with fail
            refine hK.out _ _ (⟨⟨cellL hH3.1.1 hb, cellL hH3.1.2 hb⟩, cellL hH3.2.1 hb, cellL hH3.2.2 hb⟩) (fun hH4 => ?_)
            clear hK K hH3 hb
            try simp only [Act.put, List.setIfInBounds_toArray, List.set_cons_zero, List.set_cons_succ, List.getElem_toArray, List.getElem_cons_zero, List.getElem_cons_succ]
            refine wpAnyH_take (i := 8) (v := ?_) rfl (by kernel_rfl) (by kernel_rfl) (by kernel_rfl) (fun _ _ _ h => h) (Or.inl ⟨by rfl, ?_⟩) (by assumption) ?_
            rotate_left
            · (intro wx hSw; (try dsimp only at hSw); go_simp <;> with_reducible rfl)
            try simp only [Act.put, List.setIfInBounds_toArray, List.set_cons_zero, List.set_cons_succ, List.getElem_toArray, List.getElem_cons_zero, List.getElem_cons_succ]
            refine wpAnyH_take (i := 9) (v := ?_) rfl (by kernel_rfl) (by kernel_rfl) (by kernel_rfl) (fun _ _ _ h => h) (Or.inl ⟨by rfl, ?_⟩) (by assumption) ?_
            rotate_left
            · (intro wx hSw; (try dsimp only at hSw); go_simp <;> with_reducible rfl)
            try simp only [Act.put, List.setIfInBounds_toArray, List.set_cons_zero, List.set_cons_succ, List.getElem_toArray, List.getElem_cons_zero, List.getElem_cons_succ]
            refine wpAnyH_done (by kernel_rfl) ?_ _
            go_wp2
            go_meet
            exact ⟨sa, sc, rfl, rfl, ⟨Ha3.out, Ha7.out, Hs3.out, Hs7.out⟩, HB4⟩
        case rest =>
          obtain ⟨sa, sc, rfl, rfl, HAB, HBq⟩ := hcut
          obtain ⟨wm, hwm⟩ : ∃ x, x = wc := ⟨_, rfl⟩
          subst hwm
          have HRm := Lib.hid (HR.out.later HBq.out)
          have HOm := Lib.hid (HO.out.fr (Fr.of_below HBq.out))
          have Hsab : Hid (bd < sa ∧ bd < sc ∧ sa < wm.heap.size ∧ sc < wm.heap.size) := by
            have h1 := HAB.out.2.2
            have h2 := RowIs.lt HR.out.done
            exact ⟨by omega, by omega, RowIs.lt HAB.out.1, RowIs.lt HAB.out.2.1⟩
          clear HR HO HM1 HM2 c0 c1 c2 c3 d1
          go_wp2
          go_loopg [7, 10] n (fun gj lv kv wr => ∃ k : Nat, Hid (k + gj = n) ∧ kv = .int .i64 k ∧ Hid (OwnK kNat wm.heap.size wr lv (bothL A B k)) ∧ Hid (Below w.heap.size w wr ∧ BoolRow wr bd ((bothL A B k).foldl (fun d k => d.set k 1) D) ∧ Fr bd wm wr))
          case atStart => exact ⟨0, Nat.zero_add _, rfl, OwnK.nil _ _, HRm.out.low, HRm.out.done, Fr.of_below (Below.refl _ _)⟩
          case round =>
            obtain ⟨k, Hk, rfl, HOk, HX⟩ := hrel
            obtain ⟨la, lc, elv, -⟩ := HOk.out.row.form
            obtain ⟨lm, hlm⟩ : ∃ m, (bothL A B k).length = m := ⟨_, rfl⟩
            have Hlm := Lib.hid hlm
            rw [hlm] at elv
            subst elv
            have c0 := (RowIs.kept HRm.out.box (HX.out.2.2.keep _ (RowIs.lt HRm.out.box) (by have := HRm.out.ne; omega))).cell (i := 0) rfl
            clear hlm
            by_cases hlt : k < n
            · have hra : BoolRow wr sa A := RowIs.kept HAB.out.1 (HX.out.2.2.keep _ Hsab.out.2.2.1 (by have := Hsab.out; omega))
              have hrb : BoolRow wr sc B := RowIs.kept HAB.out.2.1 (HX.out.2.2.keep _ Hsab.out.2.2.2 (by have := Hsab.out; omega))
              have d1 := BoolRow.at_ hra (i := k) (by rw [HAl.out]; exact hlt)
              have d2 := BoolRow.at_ hrb (i := k) (by rw [HBl.out]; exact hlt)
              have hki : (k : Int) < (n : Int) := by omega
              have hks : k ≤ 4096 := by have := Hn.out; omega
              have hsu := both_succ A B k
              have Hll : Hid ((bothL A B k).length + 1 ≤ 1000000) := by
                show _ ≤ _
                have := both_len A B k
                omega
              have Hltk := Lib.hid hlt
              clear hra hrb hlt
              by_cases hv : val A k ≠ 0 ∧ val B k ≠ 0
              · rw [if_pos hv] at hsu
                have Hsu := Lib.hid hsu
                rw [decide_eq_true hv.1] at d1
                rw [decide_eq_true hv.2] at d2
                clear hv hsu
                go_upto_region 15 with (first
                  | (at_builtin; refine wpList_append_one (K := kNat) rfl _ _ rfl wm.heap.size (.slice la lm lc) (bothL A B k) rfl HOk.out k _ _ rfl rfl Hll.out HX.out.2.2.le ?_; intro v9 w9 ho9 hg9 _)
                  | fail)
                have hrow : ∀ q, (Value.slice la lm lc).ownBlock = some q → wm.heap.size ≤ q := fun q hq => (HOk.out.lt hq).1
                have hbw : bd < wm.heap.size := by have := Hsab.out; omega
                have HD9 : Hid (BoolRow w9 bd ((bothL A B k).foldl (fun d k => d.set k 1) D)) := RowIs.kept HX.out.2.1 (hg9.block bd (Nat.lt_of_lt_of_le hbw HX.out.2.2.le) (fun e => by have := hrow bd e.symm; omega))
                have HL9 : Hid (Below w.heap.size w w9) := below_grow HX.out.1 hg9 (Nat.le_refl _) (fun q hq => Nat.le_trans HRm.out.low.size (hrow q hq))
                have HF9 : Hid (Fr bd wm w9) := HX.out.2.2.grown hg9 hrow
                have HO9 := Lib.hid ho9
                have hlen9 : ((bothL A B k).foldl (fun d k => d.set k 1) D).length = n := by
                  have : ∀ (T m : List Nat), (T.foldl (fun m s => m.set s 1) m).length = m.length := by
                    intro T
                    induction T with
                    | nil => intro m; rfl
                    | cons t T ih => intro m; rw [List.foldl_cons, ih, List.length_set]
                  rw [this]; exact HRm.out.len
                have d3 := BoolRow.at_ HD9.out (i := k) (by rw [hlen9]; exact Hltk.out)
                have d4 := RowIs.free HD9.out k
                have HX2 : Hid (Below w.heap.size w (w9.setCell ⟨bd, k, none⟩ (.bool true)) ∧ BoolRow (w9.setCell ⟨bd, k, none⟩ (.bool true)) bd ((bothL A B (k + 1)).foldl (fun d k => d.set k 1) D) ∧ Fr bd wm (w9.setCell ⟨bd, k, none⟩ (.bool true))) := by
                  refine ⟨HL9.out.setCell (p := ⟨bd, k, none⟩) HRm.out.ne.2.2 _, ?_, HF9.out.mark k _⟩
                  rw [Hsu.out, List.foldl_append]
                  exact BoolRow.set HD9.out k 1 (by decide)
                have HO10 : Hid (OwnK kNat wm.heap.size (w9.setCell ⟨bd, k, none⟩ (.bool true)) v9 (bothL A B (k + 1))) := by
                  show OwnK _ _ _ _ _
                  rw [Hsu.out]
                  exact OwnK.set HO9.out hbw
                clear ho9 hg9 hrow hbw hlen9 HD9 HL9 HF9 HO9 HOk HX d1 d2 c0
                go_wp2
                go_roundg (n - (k + 1))
                case measure => have := Hk.out; have := Hltk.out; omega
                case rel => exact ⟨k + 1, by have := Hk.out; have := Hltk.out; show _ = _; omega, by go_num, HO10, HX2⟩
              · rw [if_neg hv, List.append_nil] at hsu
                have HOk2 : Hid (OwnK kNat wm.heap.size wr (.slice la lm lc) (bothL A B (k + 1))) := by rw [hsu]; exact HOk
                have HX2 : Hid (Below w.heap.size w wr ∧ BoolRow wr bd ((bothL A B (k + 1)).foldl (fun d k => d.set k 1) D) ∧ Fr bd wm wr) := by rw [hsu]; exact HX
                clear HOk HX hsu
                by_cases q1 : val A k ≠ 0
                · have q2 : ¬ val B k ≠ 0 := fun q2 => hv ⟨q1, q2⟩
                  rw [decide_eq_true q1] at d1
                  rw [decide_eq_false q2] at d2
                  clear hv q1 q2
                  go_wp2
                  go_roundg (n - (k + 1))
                  case measure => have := Hk.out; have := Hltk.out; omega
                  case rel => exact ⟨k + 1, by have := Hk.out; have := Hltk.out; show _ = _; omega, by go_num, HOk2, HX2⟩
                · rw [decide_eq_false q1] at d1
                  clear hv q1
                  go_wp2
                  go_roundg (n - (k + 1))
                  case measure => have := Hk.out; have := Hltk.out; omega
                  case rel => exact ⟨k + 1, by have := Hk.out; have := Hltk.out; show _ = _; omega, by go_num, HOk2, HX2⟩
            · obtain rfl : k = n := by have := Hk.out; omega
              have hki : ¬ (k : Int) < (k : Int) := by omega
              have hlen9 : ((bothL A B k).foldl (fun d k => d.set k 1) D).length = k := by
                have : ∀ (T m : List Nat), (T.foldl (fun m s => m.set s 1) m).length = m.length := by
                  intro T
                  induction T with
                  | nil => intro m; rfl
                  | cons t T ih => intro m; rw [List.foldl_cons, ih, List.length_set]
                rw [this]; exact HRm.out.len
              have HRr := Lib.hid (HRm.out.fr HX.out.2.2 HX.out.1 HX.out.2.1 hlen9)
              have HOr := Lib.hid (HOm.out.fr HX.out.2.2)
              have Hrl : Hid (rows.length + 1 ≤ 1000000) := by have := HOr.out.len; have := HF.out.2; have := Hlt.out; have := Hn.out; show _ ≤ _; omega
              have Hsz : Hid (sb + 1 ≤ wr.heap.size) := RowIs.lt HRr.out.bbox
              have Hgk : Hid (∀ q, (Value.slice la lm lc).ownBlock = some q → sb < q ∧ q < wr.heap.size ∧ u3.ownBlock ≠ some q) := fun q hq => by
                have h1 := HOk.out.lt hq
                have h2 := RowIs.lt HRm.out.bbox
                refine ⟨by omega, h1.2, fun e => ?_⟩
                have h3 := (HOm.out.own.lt e).2
                omega
              have HOw := Lib.hid HOr.out.own
              clear hlen9 hlt HX HAB Hsab
              go_wp2_with (first
                | (at_builtin; refine wpList_append_one (K := kRow) rfl _ _ rfl (sb + 1) u3 rows rfl HOw.out (la, lm, lc) _ _ rfl rfl Hrl.out Hsz.out ?_; intro v9 w9 ho9 hg9 hat9; have HP := Lib.hid (OutAt.push HOr.out (e := (la, lm, lc)) HOk.out.row Hgk.out ho9 hg9 hat9); have HR9 : Hid (RkAt w w9 s bd sb k (.slice av es.length cv) (.slice a3 m3 c4) (refNew (turn es)) ((bothL A B k).foldl (fun d k => d.set k 1) D)) := (rc_grown HRr.out HOr.out.own hg9); clear ho9 hg9 hat9)
                | go_in)
              go_roundg (k - (a + 1))
              case measure => have := Ha.out; have := Hlt.out; omega
              case rel => exact ⟨a + 1, _, _, _, by have := Ha.out; have := Hlt.out; show _ = _; omega, by go_num, HF2, by rw [Hgr.out]; exact HR9, by rw [Hgr.out]; exact HP⟩
    · have hai : ¬ (a : Int) < (n : Int) := by omega
      obtain rfl : a = n := by have := Ha.out; omega
      have HE : Hid (gs = componentsF (aft es) (bef es) a) := by
        show _ = _
        rw [← rcomp_comp Hin.out]
        unfold rcompF
        rw [HF.out.1]
      clear hlt
      go_wp2
      go_ret
      refine ⟨_, rows, rfl, HR.out.low, HO.out.own.row, by rw [← HE.out]; exact HO.out.len, fun i e l he hl => ?_⟩
      rw [← HE.out] at hl
      exact HO.out.grp i e l he hl
end Go.Proofs.Yteiddebjbiadbaa
