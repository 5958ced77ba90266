/- Law 37: short. -/
import Derived.Test.YtalpkndlnfgjfaaDoorPorP
import Derived.Test.YtalpkndlnfgjfaaDoorPorT
import Derived.Test.YtalpkndlnfgjfaaDoorPorS
namespace Go.Proofs.YtalpkndlnfgjfaaDoor
open Go.RowKit
attribute [local go_sem ↓] Go.wp_at_zero Go.wp_at_succ

def smallP (p : PackT) : PackT := ⟨cut p.src 60, cut p.bytes 600⟩
def shortL (ls : List PackT) : List PackT := (ls.take 20).map smallP
theorem smallL_snoc (ls : List PackT) (k : Nat) (hk : k < ls.length) : (ls.take (k + 1)).map smallP = (ls.take k).map smallP ++ [smallP (ls.getD k zeroPk)] := by
  rw [List.take_succ_eq_append_getElem hk, List.getD_eq_getElem?_getD, List.getElem?_eq_getElem hk, List.map_append]
  rfl
theorem shortL_size (ls : List PackT) : (shortL ls).length ≤ 20 ∧ ∀ x ∈ shortL ls, x.src.size ≤ 60 ∧ x.bytes.size ≤ 600 := by
  refine ⟨by simp [shortL]; omega, fun x hx => ?_⟩
  unfold shortL at hx
  obtain ⟨y, _, rfl⟩ := List.mem_map.1 hx
  exact ⟨(cut_size _ _).1, (cut_size _ _).1⟩

/-- In the midst of short. -/
structure ShAt (w wr : World) (ow : ByteArray) (ep lo : Int) (v tv : Value) (ls : List PackT) : Prop where
  box : wr.heap[w.heap.size]? = some (.cells #[.string ow, .int .i64 ep, .int .i64 lo, v] 25 (0, 0))
  res : wr.heap[w.heap.size + 1]? = some (.cells #[.string ⟨#[]⟩, .int .i64 0, .int .i64 0, .slice none 0 0] 25 (0, 0))
  row : PRow wr tv ls
  lie : ∀ g, tv.ownBlock = some g → w.heap.size + 1 < g
  low : Below w.heap.size w wr
section
variable {w wr w1 w2 : World} {ow : ByteArray} {ep lo : Int} {v tv : Value} {ls ls' : List PackT}
theorem ShAt.later (h : ShAt w wr ow ep lo v tv ls) (hb : Below wr.heap.size wr w1) : ShAt w w1 ow ep lo v tv ls :=
  ⟨(hb.block _ (lt_of_heap h.box)).trans h.box, (hb.block _ (lt_of_heap h.res)).trans h.res, h.row.grown (grown_of_below hb none) (fun k hk => by cases hk), h.lie, h.low.trans (hb.mono h.low.size)⟩
theorem ShAt.append {o : Obj} {g n cap : Nat} (h : ShAt w wr ow ep lo v tv ls) (hrow : PRow w2 (.slice (some ⟨g, 0, none⟩) n cap) ls') (hg : (wr.alloc o).grownBy w2 tv.ownBlock) (hat : tv.ownBlock = some g ∨ g = (wr.alloc o).heap.size) :
    ShAt w w2 ow ep lo v (.slice (some ⟨g, 0, none⟩) n cap) ls' := by
  have hb := lt_of_heap h.box
  have hr := lt_of_heap h.res
  have hg' : wr.grownBy w2 tv.ownBlock := ⟨hg.os, hg.tape, hg.output, Nat.le_trans (by simp) hg.size, fun k hk hne => (hg.block k (by simp; omega) hne).trans (Below.heap_alloc wr _ k hk)⟩
  refine ⟨(hg'.block _ hb (fun e => by have := h.lie _ e.symm; omega)).trans h.box, (hg'.block _ hr (fun e => by have := h.lie _ e.symm; omega)).trans h.res, hrow, fun k hk => ?_, Below.grownRow h.low hg' (Nat.le_refl _) (fun k hk => by have := h.lie k hk; omega)⟩
  simp [Value.ownBlock] at hk
  subst hk
  rcases hat with e | e
  · exact h.lie g e
  · rw [e]; simp; omega
end
/-- What short leaves. -/
def ShPost (w : World) (ow : ByteArray) (ep lo : Int) (ls : List PackT) (r : Ending) (w' : World) : Prop :=
  ∃ a n c, r = .returned (.agg #[.string ow, .int .i64 ep, .int .i64 lo, .slice a n c]) ∧ PRow w' (.slice a n c) ls ∧ (∀ g, (Value.slice a n c).ownBlock = some g → w.heap.size ≤ g) ∧ Below w.heap.size w w'

theorem sh_post {w wr : World} {ow : ByteArray} {ep lo : Int} {v : Value} {a : Option Addr} {n c : Nat} {ls : List PackT} (h : ShAt w wr ow ep lo v (.slice a n c) ls) (p0 p1 p2 p3 : Value) :
    ShPost w ow ep lo ls (.returned (.agg #[.string ow, .int .i64 ep, .int .i64 lo, .slice a n c])) (((((wr.setCell ⟨w.heap.size, 3, none⟩ (.slice a n c)).setCell ⟨w.heap.size + 1, 0, none⟩ p0).setCell ⟨w.heap.size + 1, 1, none⟩ p1).setCell ⟨w.heap.size + 1, 2, none⟩ p2).setCell ⟨w.heap.size + 1, 3, none⟩ p3) := by
  have g1 := grown_setCell wr w.heap.size 3 (.slice a n c)
  have g2 := grown_set4 (wr.setCell ⟨w.heap.size, 3, none⟩ (.slice a n c)) (w.heap.size + 1) p0 p1 p2 p3
  refine ⟨a, n, c, rfl, (h.row.grown g1 (fun k hk e => by cases hk; have := h.lie _ e; omega)).grown g2 (fun k hk e => by cases hk; have := h.lie _ e; omega), fun g hg => by have := h.lie g hg; omega, ?_⟩
  exact Below.grownRow (Below.grownRow h.low g1 (Nat.le_refl _) (fun k hk => by cases hk; exact Nat.le_refl _)) g2 (Nat.le_refl _) (fun k hk => by cases hk; omega)

set_option maxRecDepth 100000 in
set_option maxHeartbeats 1600000 in
theorem short_in (ow wn : ByteArray) (ep lo : Int) (a : Option Addr) (n c : Nat) (ls : List PackT) (w : World) (hs : PSl w a n ls) (hn : n ≤ 9223372036854775807) (hls : ∀ s ∈ ls, s.src.size ≤ 9223372036854775807 ∧ s.bytes.size ≤ 9223372036854775807)
    (hcut : ((100 : Int) < (ow.size : Int) ∧ ow.extract 0 100 = wn) ∨ (¬ (100 : Int) < (ow.size : Int) ∧ ow = wn)) :
    Calls Tryd.prog 9 #[.agg #[.string ow, .int .i64 ep, .int .i64 lo, .slice a n c]] w (ShPost w wn ep lo (shortL ls)) := by
  have Hs := Lib.hid hs; clear hs
  have Hls := Lib.hid hls; clear hls
  have D0 : Hid (∀ x : ByteArray, ShAt w ((w.alloc (.cells #[.string x, .int .i64 ep, .int .i64 lo, .slice a n c] 25)).alloc (.cells #[.string ⟨#[]⟩, .int .i64 0, .int .i64 0, .slice none 0 0] 25)) x ep lo (.slice a n c) (.slice none 0 0) []) := fun x =>
    ⟨(Below.heap_alloc _ _ _ (by simp)).trans (World.alloc_heap_new w _), by have := World.alloc_heap_new (w.alloc (.cells #[.string x, .int .i64 ep, .int .i64 lo, .slice a n c] 25)) (.cells #[.string ⟨#[]⟩, .int .i64 0, .int .i64 0, .slice none 0 0] 25); rwa [World.size_alloc] at this, World.ownsRow_nil _ _ _ _, (fun g hg => by cases hg), ((Below.refl _ _).alloc (Nat.le_refl _) _).alloc (by simp) _⟩
  have Hcut := Lib.hid hcut; clear hcut
  have hways : (100 : Int) < (ow.size : Int) ∨ ¬ (100 : Int) < (ow.size : Int) := Classical.em _
  rcases hways with hc | hc
  case' inl => obtain ewn := (Hcut.out.resolve_right (fun h => by omega)).2
  case' inr => obtain rfl := (Hcut.out.resolve_left (fun h => by omega)).2.symm
  all_goals
    go_enter Tryd.func9, Tryd.ntmps9
    go_wp2
    have D1 := Lib.hid (D0.out wn)
    clear D0 Hcut hc
    go_loopw [3, 4] (fun l i wr => ∃ (k : Nat) (tv : Value), k ≤ n ∧ k ≤ 20 ∧ tv = l ∧ i = .int .i64 k ∧ Hid (ShAt w wr wn ep lo (.slice a n c) tv ((ls.take k).map smallP))) (fun _ i _ => n - (intOf i).toNat)
    case atStart => exact ⟨0, _, by omega, by omega, rfl, rfl, D1.out⟩
    case round =>
      obtain ⟨k, tv, hk, hk20, rfl, rfl, D⟩ := hrel
      clear D1
      by_cases h4 : k < n ∧ k < 20
      · obtain ⟨h4, h5⟩ := h4
        have x3 : wr.cell? ⟨w.heap.size, 3, none⟩ = some (.slice a n c) := cell_of_heap D.out.box 3
        obtain ⟨ga, off, rfl, hcell⟩ := (Hs.out.later D.out.low).2 (by omega)
        have e0 := (hcell k h4).1
        have e1 := (hcell k h4).2
        have hkl : k < ls.length := by rw [Hs.out.1]; exact h4
        have hmem : ls.getD k zeroPk ∈ ls := by
          rw [List.getD_eq_getElem?_getD, List.getElem?_eq_getElem hkl]
          exact List.getElem_mem _
        have hsz := Hls.out _ hmem
        have Hsnoc := Lib.hid (smallL_snoc ls k hkl)
        have Hl : Hid (((ls.take k).map smallP).length ≤ 1000000) := by show _ ≤ _; simp; omega
        clear hcell hmem
        have Hkl := Lib.hid hkl; clear hkl
        generalize ls.getD k zeroPk = lk at *
        obtain ⟨src, by_⟩ := lk
        dsimp only at e0 e1 hsz
        go_wp2_with fail
        refine (small_any src by_ _ hsz.1 hsz.2).mono ?_
        rintro e w1 ⟨rfl, hb⟩
        have D1 := Lib.hid (D.out.later hb)
        have Drow : Hid (∀ o, PRow (w1.alloc o) tv ((ls.take k).map smallP)) := fun o => World.ownsRow.alloc (D.out.later hb).row o
        clear hb
        go_wp2_with (at_builtin; refine wpList_append_pack (by rfl) _ _ (by rfl) tv ((ls.take k).map smallP) (by rfl) (Drow.out _) ⟨cut src 60, cut by_ 600⟩ w1.heap.size (by rfl) (heap_alloc_new w1 _) Hl.out ?_; intro g m cap w2 hrow hg hat; have D2 := Lib.hid (D1.out.append hrow hg hat); clear hrow hg hat)
        go_roundw
        case rel => exact ⟨k + 1, _, by omega, by omega, rfl, by go_num, by show ShAt _ _ _ _ _ _ _ _; rw [Hsnoc.out]; exact D2.out⟩
        case measure => simp [intOf]; omega
      · have hways : k = n ∨ (k < n ∧ k = 20) := by omega
        clear h4
        have Hfull : Hid (shortL ls = (ls.take k).map smallP) := by
          show _ = _
          unfold shortL
          rcases hways with h | h
          · rw [List.take_of_length_le (show ls.length ≤ 20 by rw [Hs.out.1]; omega), List.take_of_length_le (show ls.length ≤ k by rw [Hs.out.1]; omega)]
          · rw [h.2]
        obtain ⟨av, cv, hcv, -⟩ := row_form D.out.row
        generalize ((ls.take k).map smallP).length = nl at *
        subst hcv
        have x0 : wr.cell? ⟨w.heap.size, 0, none⟩ = some (.string wn) := cell_of_heap D.out.box 0
        have x1 : wr.cell? ⟨w.heap.size, 1, none⟩ = some (.int .i64 ep) := cell_of_heap D.out.box 1
        have x2 : wr.cell? ⟨w.heap.size, 2, none⟩ = some (.int .i64 lo) := cell_of_heap D.out.box 2
        have x3 : wr.cell? ⟨w.heap.size, 3, none⟩ = some (.slice a n c) := cell_of_heap D.out.box 3
        have fx : wr.frozen? ⟨w.heap.size, 3, none⟩ = false := frozen_of_heap D.out.box 3
        have r0 : wr.cell? ⟨w.heap.size + 1, 0, none⟩ = some (.string ⟨#[]⟩) := cell_of_heap D.out.res 0
        have r1 : wr.cell? ⟨w.heap.size + 1, 1, none⟩ = some (.int .i64 0) := cell_of_heap D.out.res 1
        have r2 : wr.cell? ⟨w.heap.size + 1, 2, none⟩ = some (.int .i64 0) := cell_of_heap D.out.res 2
        have r3 : wr.cell? ⟨w.heap.size + 1, 3, none⟩ = some (.slice none 0 0) := cell_of_heap D.out.res 3
        have g0 : wr.frozen? ⟨w.heap.size + 1, 0, none⟩ = false := frozen_of_heap D.out.res 0
        have g1 : wr.frozen? ⟨w.heap.size + 1, 1, none⟩ = false := frozen_of_heap D.out.res 1
        have g2 : wr.frozen? ⟨w.heap.size + 1, 2, none⟩ = false := frozen_of_heap D.out.res 2
        have g3 : wr.frozen? ⟨w.heap.size + 1, 3, none⟩ = false := frozen_of_heap D.out.res 3
        have hne : (w.heap.size + 1 : Nat) ≠ w.heap.size := by omega
        rcases hways with rfl | ⟨h5, rfl⟩
        all_goals
          go_wp2
          refine bodyPost_ret (v := .agg #[.string wn, .int .i64 ep, .int .i64 lo, .slice av nl cv]) (by simp [results, Tryd.results9, go_sem, r0, r1, r2, r3]) rfl ?_
          rw [Hfull.out]
          exact sh_post D.out _ _ _ _

theorem short_any (ow : ByteArray) (ep lo : Int) (a : Option Addr) (n c : Nat) (ls : List PackT) (w : World) (hs : PSl w a n ls) (hn : n ≤ 9223372036854775807) (hls : ∀ s ∈ ls, s.src.size ≤ 9223372036854775807 ∧ s.bytes.size ≤ 9223372036854775807) :
    ∃ wn : ByteArray, wn.size ≤ 100 ∧ Calls Tryd.prog 9 #[.agg #[.string ow, .int .i64 ep, .int .i64 lo, .slice a n c]] w (ShPost w wn ep lo (shortL ls)) := by
  by_cases h : (100 : Int) < (ow.size : Int)
  · exact ⟨ow.extract 0 100, by rw [ByteArray.size_extract]; omega, short_in ow _ ep lo a n c ls w hs hn hls (.inl ⟨h, rfl⟩)⟩
  · exact ⟨ow, by omega, short_in ow _ ep lo a n c ls w hs hn hls (.inr ⟨h, rfl⟩)⟩

end Go.Proofs.YtalpkndlnfgjfaaDoor
