/- Reference 36: Decode. -/
import Derived.Test.YtfobmfenjdiimaaDoorRtB
import Derived.Test.YtfobmfenjdiimaaDoorTermD
namespace Go.Proofs.YtfobmfenjdiimaaDoor
open Go.RowKit
attribute [local go_sem ↓] Go.wp_at_zero Go.wp_at_succ

/-- In the midst of the reference's Decode. -/
structure RD36 (w W : World) (ep : Int) (se : ByteArray) (ls : List ByteArray) (sc : ByteArray) (tv : Value) : Prop where
  res : W.heap[w.heap.size]? = some (.cells #[.int .i64 0, .string ⟨#[]⟩, .slice none 0 0, .string ⟨#[]⟩] 24 (0, 0))
  box : W.heap[w.heap.size + 1]? = some (.cells #[.int .i64 ep, .string se, tv, .string sc] 24 (0, 0))
  low : Below w.heap.size w W
  row : SRow W tv ls
  own : ∀ g, tv.ownBlock = some g → w.heap.size + 1 < g
theorem RD36.start (w : World) : RD36 w ((w.alloc (.cells #[.int .i64 0, .string ⟨#[]⟩, .slice none 0 0, .string ⟨#[]⟩] 24)).alloc (.cells #[.int .i64 0, .string ⟨#[]⟩, .slice none 0 0, .string ⟨#[]⟩] 24)) 0 ⟨#[]⟩ [] ⟨#[]⟩ (.slice none 0 0) :=
  ⟨(Below.heap_alloc _ _ _ (by simp)).trans (World.alloc_heap_new w _), by have := World.alloc_heap_new (w.alloc (.cells #[.int .i64 0, .string ⟨#[]⟩, .slice none 0 0, .string ⟨#[]⟩] 24)) (.cells #[.int .i64 0, .string ⟨#[]⟩, .slice none 0 0, .string ⟨#[]⟩] 24); rw [World.size_alloc] at this; exact this, ((Below.refl _ _).alloc (Nat.le_refl _) _).alloc (by simp) _, World.ownsRow_nil _ _ _ _, fun g hg => by cases hg⟩
section
variable {w W W' w2 : World} {ep ep' : Int} {se se' sc sc' : ByteArray} {ls ls' : List ByteArray} {tv : Value}
theorem RD36.later (h : RD36 w W ep se ls sc tv) (hb : Below W.heap.size W W') : RD36 w W' ep se ls sc tv :=
  ⟨(hb.block _ (lt_of_heap h.res)).trans h.res, (hb.block _ (lt_of_heap h.box)).trans h.box, h.low.trans (hb.mono h.low.size), row_kept h.row (fun g hg => by
    obtain ⟨cur, hc⟩ := row_lt h.row hg
    exact hb.block g (lt_of_heap hc)), h.own⟩
theorem RD36.store (h : RD36 w W ep se ls sc tv) (i : Nat) (v : Value) (ep' : Int) (se' sc' : ByteArray) (he : (#[.int .i64 ep, .string se, tv, .string sc] : Array Value).setIfInBounds i v = #[.int .i64 ep', .string se', tv, .string sc']) : RD36 w (W.setCell ⟨w.heap.size + 1, i, none⟩ v) ep' se' ls sc' tv :=
  ⟨(Below.heap_setCell _ _ _ _ (by show w.heap.size ≠ w.heap.size + 1; omega)).trans h.res, by rw [← he]; exact heap_setCell_same h.box i v, pBelow_row h.low (grown_setCell _ _ _ _) (Nat.le_refl _) (fun k hk => by cases hk; omega), h.row.grown (grown_setCell _ _ _ _) (fun k hk e => by cases hk; exact absurd (h.own _ e) (Nat.lt_irrefl _)), h.own⟩
theorem RD36.append {o : Obj} {g n cap : Nat} (h : RD36 w W ep se ls sc tv) (hrow : SRow w2 (.slice (some ⟨g, 0, none⟩) n cap) ls') (hg : (W.alloc o).grownBy w2 tv.ownBlock) (hat : tv.ownBlock = some g ∨ g = (W.alloc o).heap.size) :
    RD36 w (w2.setCell ⟨w.heap.size + 1, 2, none⟩ (.slice (some ⟨g, 0, none⟩) n cap)) ep se ls' sc (.slice (some ⟨g, 0, none⟩) n cap) := by
  have hT := lt_of_heap h.box
  have hgT : w.heap.size + 1 < g := by
    rcases hat with e | e
    · exact h.own g e
    · rw [e]; simp; omega
  have hg' : W.grownBy w2 tv.ownBlock := ⟨hg.os, hg.tape, hg.output, Nat.le_trans (by simp) hg.size, fun k hk hne => (hg.block k (by simp; omega) hne).trans (Below.heap_alloc W _ k hk)⟩
  have h2 : w2.heap[w.heap.size + 1]? = _ := (hg'.block _ hT (fun e => absurd (h.own _ e.symm) (Nat.lt_irrefl _))).trans h.box
  have h3 : w2.heap[w.heap.size]? = _ := (hg'.block _ (by omega) (fun e => by have := h.own _ e.symm; omega)).trans h.res
  refine ⟨(Below.heap_setCell _ _ _ _ (by show w.heap.size ≠ w.heap.size + 1; omega)).trans h3, heap_setCell_same h2 2 _, ?_, hrow.grown (grown_setCell _ _ _ _) (fun k hk e => ?_), fun k hk => ?_⟩
  · exact pBelow_row (pBelow_row h.low hg' (Nat.le_refl _) (fun k hk => by have := h.own k hk; omega)) (grown_setCell _ _ _ _) (Nat.le_refl _) (fun k hk => by cases hk; omega)
  · cases hk
    simp [Value.ownBlock] at e
    omega
  · simp [Value.ownBlock] at hk
    omega
theorem RD36.cells (h : RD36 w W ep se ls sc tv) : (W.cell? ⟨w.heap.size + 1, 0, none⟩ = some (.int .i64 ep) ∧ W.cell? ⟨w.heap.size + 1, 1, none⟩ = some (.string se) ∧ W.cell? ⟨w.heap.size + 1, 2, none⟩ = some tv ∧ W.cell? ⟨w.heap.size + 1, 3, none⟩ = some (.string sc)) ∧ ∀ j, W.frozen? ⟨w.heap.size + 1, j, none⟩ = false :=
  ⟨⟨cell_of_heap h.box 0, cell_of_heap h.box 1, cell_of_heap h.box 2, cell_of_heap h.box 3⟩, fun j => frozen_of_heap h.box j⟩
theorem RD36.rcells (h : RD36 w W ep se ls sc tv) : (W.cell? ⟨w.heap.size, 0, none⟩ = some (.int .i64 0) ∧ W.cell? ⟨w.heap.size, 1, none⟩ = some (.string ⟨#[]⟩) ∧ W.cell? ⟨w.heap.size, 2, none⟩ = some (.slice none 0 0) ∧ W.cell? ⟨w.heap.size, 3, none⟩ = some (.string ⟨#[]⟩)) ∧ ∀ j, W.frozen? ⟨w.heap.size, j, none⟩ = false :=
  ⟨⟨cell_of_heap h.res 0, cell_of_heap h.res 1, cell_of_heap h.res 2, cell_of_heap h.res 3⟩, fun j => frozen_of_heap h.res j⟩
theorem RD36.fail (h : RD36 w W ep se ls sc tv) (e : Nat) (hg : W.grownBy W' (some w.heap.size)) : TermPost w zeroT e (.returned (.tuple #[.agg #[.int .i64 0, .string ⟨#[]⟩, .slice none 0 0, .string ⟨#[]⟩], .int .i64 e])) W' :=
  ⟨none, 0, 0, rfl, World.ownsRow_nil _ _ _ _, (fun g hg => by cases hg), pBelow_row h.low hg (Nat.le_refl _) (fun k hk => by cases hk; exact Nat.le_refl _)⟩
theorem RD36.done {a : Option Addr} {n c : Nat} (h : RD36 w W ep se ls sc (.slice a n c)) (e : Nat) (hg : W.grownBy W' (some w.heap.size)) : TermPost w ⟨ep, se, ls, sc⟩ e (.returned (.tuple #[.agg #[.int .i64 ep, .string se, .slice a n c, .string sc], .int .i64 e])) W' :=
  ⟨a, n, c, rfl, h.row.grown hg (fun k hk e => by cases hk; have := h.own _ e; omega), (fun g hg => by have := h.own g hg; omega), pBelow_row h.low hg (Nat.le_refl _) (fun k hk => by cases hk; exact Nat.le_refl _)⟩
end

set_option maxRecDepth 100000 in
set_option maxHeartbeats 4000000 in
theorem rDec36_any (s : ByteArray) (w : World) (hs : s.size ≤ 35184372088832) : Calls Tryd.prog 13 #[.string s] w (TermPost w (rDecT s).1 (rDecT s).2) := by
  have D0 := Lib.hid (RD36.start w)
  have Hs := Lib.hid hs; clear hs
  have Hdec0 : Hid (rDecT s = if (rTake (rPiece (rTake s).2).2).1 < 0 ∨ 16 < (rTake (rPiece (rTake s).2).2).1 then (zeroT, 3) else if encT ⟨(rTake s).1, (rPiece (rTake s).2).1, (rPieces (rTake (rPiece (rTake s).2).2).1.toNat (rTake (rPiece (rTake s).2).2).2).1, (rPiece (rPieces (rTake (rPiece (rTake s).2).2).1.toNat (rTake (rPiece (rTake s).2).2).2).2).1⟩ = (s, 0) ∧ (rPiece (rPieces (rTake (rPiece (rTake s).2).2).1.toNat (rTake (rPiece (rTake s).2).2).2).2).2 = ⟨#[]⟩ then (⟨(rTake s).1, (rPiece (rTake s).2).1, (rPieces (rTake (rPiece (rTake s).2).2).1.toNat (rTake (rPiece (rTake s).2).2).2).1, (rPiece (rPieces (rTake (rPiece (rTake s).2).2).1.toNat (rTake (rPiece (rTake s).2).2).2).2).1⟩, 0) else (zeroT, 3)) := rfl
  go_enter Tryd.func13, Tryd.ntmps13
  go_wp2_with fail
  generalize (w.alloc (.cells #[.int .i64 0, .string ⟨#[]⟩, .slice none 0 0, .string ⟨#[]⟩] 24)).alloc (.cells #[.int .i64 0, .string ⟨#[]⟩, .slice none 0 0, .string ⟨#[]⟩] 24) = W0 at *
  refine (take36_any s _ Hs.out).mono ?_
  rintro e w1 ⟨rfl, hb⟩
  have D1 := Lib.hid (D0.out.later hb); clear hb D0
  obtain ⟨⟨c0, -, -, -⟩, hf⟩ := D1.out.cells
  have f0 := hf 0; clear hf
  have T1 := Lib.hid (Nat.le_trans (rTake_small s).1 Hs.out)
  generalize rTake s = t1 at *
  obtain ⟨a1, s1⟩ := t1
  dsimp only at T1
  go_wp2_with fail
  have D2 := Lib.hid (D1.out.store 0 (.int .i64 a1) a1 _ _ rfl); clear D1 c0 f0
  refine (piece36_any s1 _ T1.out).mono ?_
  rintro e w2 ⟨rfl, hb⟩
  have D3 := Lib.hid (D2.out.later hb); clear hb D2
  obtain ⟨⟨-, c1, -, -⟩, hf⟩ := D3.out.cells
  have f1 := hf 1; clear hf
  have T2 := Lib.hid (rPiece_small s1)
  generalize rPiece s1 = t2 at *
  obtain ⟨a2, s2⟩ := t2
  dsimp only at T2
  go_wp2_with fail
  have D4 := Lib.hid (D3.out.store 1 (.string a2) a1 a2 _ rfl); clear D3 c1 f1
  have T2' : Hid (s2.size ≤ 35184372088832) := Nat.le_trans T2.out.2 T1.out
  have T2a : Hid (a2.size ≤ 35184372088832) := Nat.le_trans T2.out.1 T1.out
  clear T2
  refine (take36_any s2 _ T2'.out).mono ?_
  rintro e w3 ⟨rfl, hb⟩
  have D5 := Lib.hid (D4.out.later hb); clear hb D4
  have T3 := Lib.hid (Nat.le_trans (rTake_small s2).1 T2'.out)
  generalize rTake s2 = t3 at *
  obtain ⟨a3, s3⟩ := t3
  dsimp only at T3
  have Hdec : Hid (rDecT s = if a3 < 0 ∨ 16 < a3 then (zeroT, 3) else if encT ⟨a1, a2, (rPieces a3.toNat s3).1, (rPiece (rPieces a3.toNat s3).2).1⟩ = (s, 0) ∧ (rPiece (rPieces a3.toNat s3).2).2 = ⟨#[]⟩ then (⟨a1, a2, (rPieces a3.toNat s3).1, (rPiece (rPieces a3.toNat s3).2).1⟩, 0) else (zeroT, 3)) := Hdec0.out
  clear Hdec0
  by_cases h5 : a3 < 0 ∨ 16 < a3
  · have he : Hid (rDecT s = (zeroT, 3)) := Hdec.out.trans (if_pos h5)
    have hways : a3 < 0 ∨ (0 ≤ a3 ∧ 16 < a3) := by omega
    clear h5 Hdec
    obtain ⟨⟨r0, r1, r2, r3⟩, hf⟩ := D5.out.rcells
    have g0 := hf 0
    have g1 := hf 1
    have g2 := hf 2
    have g3 := hf 3
    clear hf
    rcases hways with h6 | ⟨h6, h7⟩
    all_goals
      go_wp2
      refine bodyPost_ret (v := .tuple #[.agg #[.int .i64 0, .string ⟨#[]⟩, .slice none 0 0, .string ⟨#[]⟩], .int .i64 3]) (by simp [results, Tryd.results13, go_sem, r0, r1, r2, r3]) rfl ?_
      rw [he.out]
      exact D5.out.fail 3 (grown_set4 _ _ _ _ _ _)
  · obtain ⟨m, rfl⟩ := Int.eq_ofNat_of_zero_le (a := a3) (by omega)
    have Hdec2 := Lib.hid (Hdec.out.trans (if_neg h5))
    have hm : m ≤ 16 := by omega
    have hmt : ((m : Nat) : Int).toNat = m := Int.toNat_natCast m
    rw [hmt] at Hdec2
    have h5a : ¬ ((m : Int) < 0) := by omega
    have h5b : ¬ (16 < (m : Int)) := by omega
    clear h5 Hdec hmt
    go_wp2
    go_loopg [5, 7] m (fun gk rv iv wr => ∃ (k : Nat) (tv : Value), k + gk = m ∧ rv = .string (rPieces k s3).2 ∧ iv = .int .i64 k ∧ Hid (RD36 w wr a1 a2 (rPieces k s3).1 ⟨#[]⟩ tv))
    case atStart => exact ⟨0, _, by omega, rfl, rfl, D5.out⟩
    case round =>
      clear D5
      obtain ⟨k, tv, hk, rfl, rfl, D⟩ := hrel
      have Hk := Lib.hid hk
      have hkm : k ≤ m := by omega
      clear hk
      have T4 := Lib.hid (Nat.le_trans (rPieces_small k s3).1 T3.out)
      by_cases h4 : k < m
      · have Hl : Hid ((rPieces k s3).1.length ≤ 1000000) := by show _ ≤ _; rw [rPieces_length]; omega
        have hsn : rPieces (k + 1) s3 = ((rPieces k s3).1 ++ [(rPiece (rPieces k s3).2).1], (rPiece (rPieces k s3).2).2) := rfl
        have Hsn := Lib.hid hsn
        clear hsn
        generalize rPieces k s3 = pk at *
        obtain ⟨lk, sk⟩ := pk
        dsimp only at *
        go_wp2_with fail
        refine (piece36_any sk _ T4.out).mono ?_
        rintro e w5 ⟨rfl, hb⟩
        have D6 := Lib.hid (D.out.later hb); clear hb D
        obtain ⟨⟨-, -, c2, -⟩, -⟩ := D6.out.cells
        have hlt5 := lt_of_heap D6.out.box
        have hne5 := World.new_ne w5 ⟨w.heap.size + 1, 2, none⟩ c2
        have Drow : Hid (∀ o, SRow (w5.alloc o) tv lk) := fun o => World.ownsRow.alloc D6.out.row o
        generalize rPiece sk = t at *
        obtain ⟨x1, x2⟩ := t
        dsimp only at *
        go_wp2_with (at_builtin; refine wpList_append_string rfl _ _ rfl tv lk rfl (Drow.out _) _ w5.heap.size rfl (heap_alloc_new w5 _) Hl.out ?_; intro g m' cap w6 hrow6 hg6 hat6; have D7 := Lib.hid (D6.out.append hrow6 hg6 hat6); have hh6 := (hg6.block (w.heap.size + 1) (by simp; omega) (fun e => absurd (D6.out.own _ e.symm) (Nat.lt_irrefl _))).trans ((Below.heap_alloc w5 _ (w.heap.size + 1) hlt5).trans D6.out.box); have c6 : w6.cell? ⟨w.heap.size + 1, 2, none⟩ = some tv := cell_of_heap hh6 2; have f6 : w6.frozen? ⟨w.heap.size + 1, 2, none⟩ = false := frozen_of_heap hh6 2; clear hrow6 hg6 hat6 hh6)
        clear D6 c2 hlt5 hne5 Drow c6 f6
        go_roundg (m - (k + 1))
        case measure => have := Hk.out; omega
        case rel => exact ⟨k + 1, _, by have := Hk.out; omega, by rw [Hsn.out], by go_num, by rw [Hsn.out]; exact D7⟩
      · obtain rfl : k = m := by omega
        clear Hk hkm h4
        have T5 := Lib.hid (rPieces_small k s3).2
        have Hpl := Lib.hid (rPieces_length k s3)
        generalize rPieces k s3 = pk at *
        obtain ⟨ls, s4⟩ := pk
        dsimp only at *
        have T6 := Lib.hid (rPiece_small s4)
        have hlt : ¬ ((k : Int) < (k : Int)) := by omega
        go_wp2_with fail
        refine (piece36_any s4 _ T4.out).mono ?_
        rintro e w5 ⟨rfl, hb⟩
        have D6 := Lib.hid (D.out.later hb); clear hb D
        generalize rPiece s4 = t at *
        obtain ⟨sc, s5⟩ := t
        dsimp only at *
        obtain ⟨⟨c0, c1, c2, c3⟩, hf⟩ := D6.out.cells
        have f3 := hf 3
        clear hf
        obtain ⟨av, cv, hcv, hform⟩ := row_form D6.out.row
        rw [Hpl.out] at hcv
        subst hcv
        clear hform
        go_wp2_with fail
        have D8 := Lib.hid (D6.out.store 3 (.string sc) a1 a2 sc rfl)
        generalize w5.setCell ⟨w.heap.size + 1, 3, none⟩ (.string sc) = W8 at *
        refine (rEnc36_any a1 a2 sc av k cv ls _ D8.out.row.sl (Nat.le_trans T2a.out (by decide)) (Nat.le_trans T6.out.1 (Nat.le_trans T4.out (by decide))) (by omega) (fun x hx => Nat.le_trans (T5.out x hx) (Nat.le_trans T3.out (by decide)))).mono ?_
        rintro e w6 ⟨rfl, hb⟩
        have D9 := Lib.hid (D8.out.later hb); clear hb D8 D6 c0 c1 c2 c3 f3
        obtain ⟨⟨c0, c1, c2, c3⟩, -⟩ := D9.out.cells
        generalize encT ⟨a1, a2, ls, sc⟩ = q at *
        obtain ⟨es, q⟩ := q
        dsimp only at *
        obtain ⟨⟨r0, r1, r2, r3⟩, hf⟩ := D9.out.rcells
        have g0 := hf 0
        have g1 := hf 1
        have g2 := hf 2
        have g3 := hf 3
        clear hf
        have hte := toList_empty s5
        by_cases h8 : q = 0
        · subst h8
          by_cases h9 : es = s
          · subst h9
            have hx : (es.toList != es.toList) = false := by simp
            by_cases h10 : s5.size = 0
            · have h11 : s5 = ⟨#[]⟩ := ByteArray.ext (Array.eq_empty_of_size_eq_zero h10)
              have he : Hid (rDecT es = (⟨a1, a2, ls, sc⟩, 0)) := Hdec2.out.trans (if_pos ⟨rfl, h11⟩)
              have hte' : s5.toList.isEmpty = true := by simpa [h10] using hte
              clear Hdec2 hte h11 h10
              go_wp2
              refine bodyPost_ret (v := .tuple #[.agg #[.int .i64 a1, .string a2, .slice av k cv, .string sc], .int .i64 0]) (by simp [results, Tryd.results13, go_sem, r0, r1, r2, r3]) rfl ?_
              rw [he.out]
              exact D9.out.done 0 (grown_set4 _ _ _ _ _ _)
            · have he : Hid (rDecT es = (zeroT, 3)) := Hdec2.out.trans (if_neg (fun h => h10 (by rw [h.2]; rfl)))
              have hte' : s5.toList.isEmpty = false := by simpa [h10] using hte
              clear Hdec2 hte h10
              go_wp2
              refine bodyPost_ret (v := .tuple #[.agg #[.int .i64 0, .string ⟨#[]⟩, .slice none 0 0, .string ⟨#[]⟩], .int .i64 3]) (by simp [results, Tryd.results13, go_sem, r0, r1, r2, r3]) rfl ?_
              rw [he.out]
              exact D9.out.fail 3 (grown_set4 _ _ _ _ _ _)
          · have he : Hid (rDecT s = (zeroT, 3)) := Hdec2.out.trans (if_neg (fun h => h9 (Prod.mk.inj h.1).1))
            have hx : (es.toList == s.toList) = false := beq_eq_false_iff_ne.2 (fun h => h9 (by have := str_beq es s; rw [h, beq_self_eq_true] at this; exact of_decide_eq_true this.symm))
            clear Hdec2 h9 hte
            go_wp2
            refine bodyPost_ret (v := .tuple #[.agg #[.int .i64 0, .string ⟨#[]⟩, .slice none 0 0, .string ⟨#[]⟩], .int .i64 3]) (by simp [results, Tryd.results13, go_sem, r0, r1, r2, r3]) rfl ?_
            rw [he.out]
            exact D9.out.fail 3 (grown_set4 _ _ _ _ _ _)
        · have he : Hid (rDecT s = (zeroT, 3)) := Hdec2.out.trans (if_neg (fun h => h8 (Prod.mk.inj h.1).2))
          have hx : ((q : Int) != 0) = true := bne_iff_ne.2 (by omega)
          clear Hdec2 h8 hte
          go_wp2
          refine bodyPost_ret (v := .tuple #[.agg #[.int .i64 0, .string ⟨#[]⟩, .slice none 0 0, .string ⟨#[]⟩], .int .i64 3]) (by simp [results, Tryd.results13, go_sem, r0, r1, r2, r3]) rfl ?_
          rw [he.out]
          exact D9.out.fail 3 (grown_set4 _ _ _ _ _ _)
end Go.Proofs.YtfobmfenjdiimaaDoor
