/- port: Decode, the walk. -/
import Derived.Test.YtijfdgoeppehlaaGreatDoorPorD
namespace Go.Proofs.YtijfdgoeppehlaaGreatDoor
open Go.RowKit
attribute [local go_sem ↓] Go.wp_at_zero Go.wp_at_succ

def SrQ (L T k : Nat) : Prop := L ≤ k ∧ k < T
/-- In the midst of Decode. -/
structure QDec (wa : World) (L T b : Nat) (wr : World) (ow : ByteArray) (ep lo : Int) (ls : List PackT) (s : RdS) (tv : Value) : Prop where
  heap : wr.heap[T]? = some (.cells #[.string ow, .int .i64 ep, .int .i64 lo, tv] 80 (0, 0))
  row : PRow wr tv ls
  lie : ∀ g, tv.ownBlock = some g → T < g
  rd : Rd (SrQ L T) b wr s
  below : Below L wa wr
  low : L ≤ T
  wlow : L ≤ wa.heap.size
section
variable {wa : World} {L T b : Nat} {wr w1 : World} {ow : ByteArray} {ep lo : Int} {ls ls' : List PackT} {s s' : RdS} {tv : Value}
theorem QDec.read (h : QDec wa L T b wr ow ep lo ls s tv) (hr : Rd (SrQ L T) b w1 s') (hg : wr.grownBy w1 (some b)) : QDec wa L T b w1 ow ep lo ls s' tv where
  heap := (hg.block T (lt_of_heap h.heap) (fun e => by cases e; exact absurd hr.1.2 (Nat.lt_irrefl _))).trans h.heap
  row := h.row.grown hg (fun k hk e => by cases hk; have := h.lie b e; have := hr.1.2; omega)
  lie := h.lie
  rd := hr
  below := Below.grownRow h.below hg h.wlow (fun k hk => by cases hk; exact hr.1.1)
  low := h.low
  wlow := h.wlow
theorem QDec.store (h : QDec wa L T b wr ow ep lo ls s tv) (i : Nat) (v : Value) (ow' : ByteArray) (ep' lo' : Int)
    (he : (#[.string ow, .int .i64 ep, .int .i64 lo, tv] : Array Value).setIfInBounds i v = #[.string ow', .int .i64 ep', .int .i64 lo', tv]) : QDec wa L T b (wr.setCell ⟨T, i, none⟩ v) ow' ep' lo' ls s tv where
  heap := by rw [heap_setCell_same h.heap, he]
  row := h.row.grown (grown_setCell _ _ _ _) (fun k hk e => by cases hk; exact absurd (h.lie T e) (Nat.lt_irrefl _))
  lie := h.lie
  rd := h.rd.grown (grown_setCell _ _ _ _) (fun k hk e => by cases hk; exact absurd e.2 (Nat.lt_irrefl _))
  below := h.below.setCell h.low _
  low := h.low
  wlow := h.wlow
/-- A store elsewhere. -/
theorem QDec.other {row : Option Nat} (h : QDec wa L T b wr ow ep lo ls s tv) (hg : wr.grownBy w1 row) (hr : ∀ k, row = some k → T < k ∧ tv.ownBlock ≠ some k) : QDec wa L T b w1 ow ep lo ls s tv where
  heap := (hg.block T (lt_of_heap h.heap) (fun e => absurd (hr T e.symm).1 (Nat.lt_irrefl _))).trans h.heap
  row := h.row.grown hg (fun k hk => (hr k hk).2)
  lie := h.lie
  rd := h.rd.grown hg (fun k hk e => by have := (hr k hk).1; have := e.2; omega)
  below := Below.grownRow h.below hg h.wlow (fun k hk => by have := (hr k hk).1; have := h.low; omega)
  low := h.low
  wlow := h.wlow
theorem QDec.storeX (h : QDec wa L T b wr ow ep lo ls s tv) (X i : Nat) (v : Value) (hX : T < X) (ht : tv.ownBlock ≠ some X) : QDec wa L T b (wr.setCell ⟨X, i, none⟩ v) ow ep lo ls s tv :=
  h.other (grown_setCell _ _ _ _) (fun k hk => by cases hk; exact ⟨hX, ht⟩)
theorem QDec.append {w2 : World} {o : Obj} {g n cap : Nat} (h : QDec wa L T b wr ow ep lo ls s tv)
    (hrow : PRow w2 (.slice (some ⟨g, 0, none⟩) n cap) ls') (hg : (wr.alloc o).grownBy w2 tv.ownBlock) (hat : tv.ownBlock = some g ∨ g = (wr.alloc o).heap.size) :
    QDec wa L T b (w2.setCell ⟨T, 3, none⟩ (.slice (some ⟨g, 0, none⟩) n cap)) ow ep lo ls' s (.slice (some ⟨g, 0, none⟩) n cap) := by
  have hT := lt_of_heap h.heap
  have hgT : T < g := by
    rcases hat with e | e
    · exact h.lie g e
    · rw [e]; simp; omega
  have hg' : wr.grownBy w2 tv.ownBlock := ⟨hg.os, hg.tape, hg.output, Nat.le_trans (by simp) hg.size, fun k hk hne => (hg.block k (by simp; omega) hne).trans (Below.heap_alloc wr _ k hk)⟩
  have h2 : w2.heap[T]? = _ := (hg'.block T hT (fun e => absurd (h.lie T e.symm) (Nat.lt_irrefl _))).trans h.heap
  refine ⟨heap_setCell_same h2 3 _, hrow.grown (grown_setCell _ _ _ _) (fun k hk e => ?_), fun k hk => ?_, (h.rd.grown hg' (fun k hk e => ?_)).grown (grown_setCell _ _ _ _) (fun k hk e => by cases hk; exact absurd e.2 (Nat.lt_irrefl _)), ?_, h.low, h.wlow⟩
  · cases hk
    simp [Value.ownBlock] at e
    omega
  · simp [Value.ownBlock] at hk
    omega
  · have := h.lie k hk
    have := e.2
    omega
  · exact (Below.grownRow h.below hg' h.wlow (fun k hk => by have := h.lie k hk; have := h.low; omega)).setCell h.low _
theorem QDec.drew (h : QDec wa L T b wr ow ep lo ls s tv) : QDec wa L T b wr.drew ow ep lo ls s tv :=
  ⟨h.heap, h.row, h.lie, h.rd, h.below.drew, h.low, h.wlow⟩
theorem QDec.cell (h : QDec wa L T b wr ow ep lo ls s tv) :
    (wr.cell? ⟨T, 0, none⟩ = some (.string ow) ∧ wr.cell? ⟨T, 1, none⟩ = some (.int .i64 ep) ∧ wr.cell? ⟨T, 2, none⟩ = some (.int .i64 lo) ∧ wr.cell? ⟨T, 3, none⟩ = some tv) ∧ ∀ i, wr.frozen? ⟨T, i, none⟩ = false :=
  ⟨⟨cell_of_heap h.heap 0, cell_of_heap h.heap 1, cell_of_heap h.heap 2, cell_of_heap h.heap 3⟩, fun i => frozen_of_heap h.heap i⟩
end
/-- What Decode leaves. -/
def PortPost (w : World) (p : PortT) (e : Nat) (r : Ending) (w' : World) : Prop :=
  ∃ a n c, r = .returned (.tuple #[.agg #[.string p.owner, .int .i64 p.epoch, .int .i64 p.lost, .slice a n c], .int .i64 e]) ∧ PRow w' (.slice a n c) p.queue ∧ (∀ g, (Value.slice a n c).ownBlock = some g → w.heap.size ≤ g) ∧ Below w.heap.size w w'
theorem port_post {w wx X : World} {p : PortT} {e : Nat} {a : Option Addr} {n c : Nat} (hb : Below w.heap.size w wx) (hg : wx.grownBy X (some w.heap.size)) (hr : PRow wx (.slice a n c) p.queue) (hl : ∀ g, (Value.slice a n c).ownBlock = some g → w.heap.size < g) :
    PortPost w p e (.returned (.tuple #[.agg #[.string p.owner, .int .i64 p.epoch, .int .i64 p.lost, .slice a n c], .int .i64 e])) X :=
  ⟨a, n, c, rfl, hr.grown hg (fun k hk e => by cases hk; exact absurd (hl _ e) (Nat.lt_irrefl _)), fun g hg => Nat.le_of_lt (hl g hg), Below.grownRow hb hg (Nat.le_refl _) (fun k hk => by cases hk; exact Nat.le_refl _)⟩
theorem nilQ_post {w wx X : World} {e : Nat} (hb : Below w.heap.size w wx) (hg : wx.grownBy X (some w.heap.size)) :
    PortPost w zeroQ e (.returned (.tuple #[.agg #[.string ⟨#[]⟩, .int .i64 0, .int .i64 0, .slice none 0 0], .int .i64 e])) X :=
  port_post (p := zeroQ) hb hg (World.ownsRow_nil _ _ _ _) (fun g hg => by cases hg)

set_option maxRecDepth 100000 in
set_option maxHeartbeats 4000000 in
theorem qDecode_any (s : ByteArray) (w : World) (hs2 : s.size ≤ 35184372088832) : Calls Tryz.prog 53 #[.string s] w (PortPost w (decQ s).1 (decQ s).2) := by
  have hconv := Lib.run_convert_string_bytes (P := Tryz.prog) (w.alloc (.cells #[.string ⟨#[]⟩, .int .i64 0, .int .i64 0, .slice none 0 0] 80)) 9 115 5 s Tryz.underlying9 Tryz.underlying115 Tryz.underlying5
  have hR : (w.alloc (.cells #[.string ⟨#[]⟩, .int .i64 0, .int .i64 0, .slice none 0 0] 80)).heap[w.heap.size]? = some (.cells #[.string ⟨#[]⟩, .int .i64 0, .int .i64 0, .slice none 0 0] 80 (0, 0)) := World.alloc_heap_new w _
  have hbw := bytesWorld_below (w.alloc (.cells #[.string ⟨#[]⟩, .int .i64 0, .int .i64 0, .slice none 0 0] 80)) 5 s
  have hsrc : BSrc (Lib.bytesWorld (w.alloc (.cells #[.string ⟨#[]⟩, .int .i64 0, .int .i64 0, .slice none 0 0] 80)) 5 s) (.slice (some ⟨w.heap.size + 1, 0, none⟩) s.size (grownCap (w.alloc (.cells #[.string ⟨#[]⟩, .int .i64 0, .int .i64 0, .slice none 0 0] 80)) s.size 0 5)) s.data.toList := by
    refine .inr ⟨_, _, _, rfl, (size_toList s).symm, fun j u hu => ?_⟩
    have hj : j < s.size := by
      rw [← size_toList]
      rcases Nat.lt_or_ge j s.data.toList.length with h | h
      · exact h
      · rw [List.getElem?_eq_none (by simpa using h)] at hu; cases hu
    have hadd : (⟨w.heap.size + 1, 0, none⟩ : Addr).add j = ⟨w.heap.size + 1, j, none⟩ := by unfold Addr.add; split <;> simp_all
    rw [hadd]
    have := Lib.bytesWorld_cell (w.alloc (.cells #[.string ⟨#[]⟩, .int .i64 0, .int .i64 0, .slice none 0 0] 80)) 5 s j hj
    rw [World.size_alloc] at this
    rw [this, ← hu]
    have hj' : j < s.data.toList.length := by rw [size_toList]; exact hj
    simp only [List.getElem?_map, List.getElem?_eq_getElem hj', Option.map_some, byteV, List.getD_eq_getElem?_getD, Option.getD_some]
  rw [World.size_alloc] at hconv
  have hRb := (hbw.block w.heap.size (by simp)).trans hR
  have Hwb : Hid (Below w.heap.size w (Lib.bytesWorld (w.alloc (.cells #[.string ⟨#[]⟩, .int .i64 0, .int .i64 0, .slice none 0 0] 80)) 5 s)) := ((Below.refl _ _).alloc (Nat.le_refl _) _).trans (hbw.mono (by simp))
  have hwsz : w.heap.size < (Lib.bytesWorld (w.alloc (.cells #[.string ⟨#[]⟩, .int .i64 0, .int .i64 0, .slice none 0 0] 80)) 5 s).heap.size := by rw [Lib.bytesWorld_size]; simp; omega
  have Hsrc := Lib.hid hsrc; clear hsrc hbw hR
  have HRb := Lib.hid hRb; clear hRb
  have Hlen : Hid (s.data.toList.length ≤ 35184372088832) := by show _ ≤ _; rw [size_toList]; exact hs2
  clear hs2
  go_enter Tryz.func53, Tryz.ntmps53
  go_wp2_with fail
  generalize Lib.bytesWorld (w.alloc (.cells #[.string ⟨#[]⟩, .int .i64 0, .int .i64 0, .slice none 0 0] 80)) 5 s = wb at *
  refine (newReader_any _ s.data.toList _ Hlen.out Hsrc.out (by simp)).mono ?_
  rintro e w1 ⟨b, rfl, hrd, hb1⟩
  clear hconv Hsrc
  have D0 : Hid (QDec wb wb.heap.size w1.heap.size b (w1.alloc (.cells #[.string ⟨#[]⟩, .int .i64 0, .int .i64 0, .slice none 0 0] 80)) ⟨#[]⟩ 0 0 [] ⟨s.data.toList, 0⟩ (.slice none 0 0)) :=
    ⟨heap_alloc_new w1 _, World.ownsRow_nil _ _ _ _, (fun g hg => by cases hg), Rd.later hrd ((Below.refl _ _).alloc (Nat.le_refl _) _), hb1.alloc hb1.size _, hb1.size, Nat.le_refl _⟩
  clear hrd hb1
  generalize hbs : s.data.toList = bs at *
  have Hbs := Lib.hid hbs; clear hbs
  go_wp2_with fail
  refine (rText_any _ b 64 _ _ D0.out.rd).mono ?_
  rintro e w2 ⟨rfl, hr, hg⟩
  have D1 := Lib.hid (D0.out.read hr hg); clear hr hg D0
  obtain ⟨⟨c0, -, -, -⟩, hf⟩ := D1.out.cell
  have f0 := hf 0
  clear hf
  have e1 : rdText 64 ⟨bs, 0⟩ = q1 bs := rfl
  rw [e1] at D1
  rw [e1]
  clear e1
  have D1' : Hid (QDec wb wb.heap.size w1.heap.size b (w2.setCell ⟨w1.heap.size, 0, none⟩ (.string (strOf (q1 bs).1))) (strOf (q1 bs).1) 0 0 [] (q1 bs).2 (.slice none 0 0)) := D1.out.store 0 _ _ _ _ rfl
  clear D1
  go_wp2_with fail
  refine (rNumber_any _ b 1073741824 _ _ D1'.out.rd).mono ?_
  rintro e w3 ⟨rfl, hr, hg⟩
  have D2 := Lib.hid (D1'.out.read hr hg); clear hr hg D1' c0 f0
  obtain ⟨⟨-, c1, -, -⟩, hf⟩ := D2.out.cell
  have f1 := hf 1
  clear hf
  have e2 : rdNum 1073741824 (q1 bs).2 = q2 bs := rfl
  rw [e2]
  rw [e2] at D2
  clear e2
  have D2' : Hid (QDec wb wb.heap.size w1.heap.size b (w3.setCell ⟨w1.heap.size, 1, none⟩ (.int .i64 (q2 bs).1)) (strOf (q1 bs).1) (q2 bs).1 0 [] (q2 bs).2 (.slice none 0 0)) := D2.out.store 1 _ _ _ _ rfl
  clear D2
  go_wp2_with fail
  refine (rNumber_any _ b 1073741824 _ _ D2'.out.rd).mono ?_
  rintro e w4 ⟨rfl, hr, hg⟩
  have D3 := Lib.hid (D2'.out.read hr hg); clear hr hg D2' c1 f1
  obtain ⟨⟨-, -, c2, -⟩, hf⟩ := D3.out.cell
  have f2 := hf 2
  clear hf
  have e3 : rdNum 1073741824 (q2 bs).2 = q3 bs := rfl
  rw [e3]
  rw [e3] at D3
  clear e3
  have D3' : Hid (QDec wb wb.heap.size w1.heap.size b (w4.setCell ⟨w1.heap.size, 2, none⟩ (.int .i64 (q3 bs).1)) (strOf (q1 bs).1) (q2 bs).1 (q3 bs).1 [] (q3 bs).2 (.slice none 0 0)) := D3.out.store 2 _ _ _ _ rfl
  clear D3
  go_wp2_with fail
  refine (rNumber_any _ b 16 _ _ D3'.out.rd).mono ?_
  rintro e w5 ⟨rfl, hr, hg⟩
  have D4 := Lib.hid (D3'.out.read hr hg); clear hr hg D3' c2 f2
  have e4 : rdNum 16 (q3 bs).2 = q4 bs := rfl
  have h16 : (q4 bs).1 ≤ 16 := rdNum_le 16 _
  rw [e4]
  rw [e4] at D4
  clear e4
  generalize hn : (q4 bs).1 = n at *
  have Hn := Lib.hid hn; clear hn
  go_wp2
  go_loopw [23] (fun i wr => ∃ (k : Nat) (tv : Value), k ≤ n ∧ i = .int .i64 k ∧ Hid (QDec wb wb.heap.size w1.heap.size b wr (strOf (q1 bs).1) (q2 bs).1 (q3 bs).1 (rdPacks k (q4 bs).2).1 (rdPacks k (q4 bs).2).2 tv)) (fun i _ => n - (intOf i).toNat)
  case atStart => exact ⟨0, _, by omega, rfl, D4.out⟩
  case round =>
    obtain ⟨k, tv, hk, rfl, D⟩ := hrel
    clear D4
    by_cases h4 : k < n
    · have Da : Hid (∀ o, QDec wb wb.heap.size w1.heap.size b (wr.alloc o) (strOf (q1 bs).1) (q2 bs).1 (q3 bs).1 (rdPacks k (q4 bs).2).1 (rdPacks k (q4 bs).2).2 tv) := fun o => D.out.other (World.grownBy_alloc _ _ none) (fun k hk => by cases hk)
      have HX : Hid (∀ o, (wr.alloc o).heap[wr.heap.size]? = some o) := fun o => heap_alloc_new wr o
      have hTX : w1.heap.size < wr.heap.size := lt_of_heap D.out.heap
      have Htv : Hid (tv.ownBlock ≠ some wr.heap.size) := fun e => by obtain ⟨cur, hc⟩ := row_lt D.out.row e; exact absurd (lt_of_heap hc) (Nat.lt_irrefl _)
      have HbX : Hid (b ≠ wr.heap.size) := by
        have h1 := D.out.rd.1.2
        show _ ≠ _
        omega
      have Hl : Hid ((rdPacks k (q4 bs).2).1.length ≤ 1000000) := by show _ ≤ _; rw [rdPacks_length]; omega
      clear D
      go_wp2_with fail
      refine (rText_any _ b 32 _ _ (Da.out _).rd).mono ?_
      rintro e w6 ⟨rfl, hr, hg⟩
      have D6 := Lib.hid ((Da.out _).read hr hg)
      have hX6 := (hg.block wr.heap.size (by simp) (fun e => HbX.out (by cases e; rfl))).trans (HX.out _)
      clear hr hg Da HX
      have x0 : w6.cell? ⟨wr.heap.size, 0, none⟩ = some (.string ⟨#[]⟩) := cell_of_heap hX6 0
      have y0 : w6.frozen? ⟨wr.heap.size, 0, none⟩ = false := frozen_of_heap hX6 0
      have hX6' := heap_setCell_same hX6 0 (.string (strOf (rdText 32 (rdPacks k (q4 bs).2).2).1))
      have D6' := Lib.hid (D6.out.storeX wr.heap.size 0 (.string (strOf (rdText 32 (rdPacks k (q4 bs).2).2).1)) hTX Htv.out)
      have HX6 := Lib.hid hX6'; clear hX6 hX6' D6
      go_wp2_with fail
      refine (rText_any _ b 512 _ _ D6'.out.rd).mono ?_
      rintro e w7 ⟨rfl, hr, hg⟩
      have D7 := Lib.hid (D6'.out.read hr hg)
      have hX7 := (hg.block wr.heap.size (lt_of_heap HX6.out) (fun e => HbX.out (by cases e; rfl))).trans HX6.out
      clear hr hg D6' HX6 x0 y0
      have x1 : w7.cell? ⟨wr.heap.size, 1, none⟩ = some (.string ⟨#[]⟩) := cell_of_heap hX7 1
      have y1 : w7.frozen? ⟨wr.heap.size, 1, none⟩ = false := frozen_of_heap hX7 1
      have hX7' := heap_setCell_same hX7 1 (.string (strOf (rdText 512 (rdText 32 (rdPacks k (q4 bs).2).2).2).1))
      have D8 := Lib.hid (D7.out.storeX wr.heap.size 1 (.string (strOf (rdText 512 (rdText 32 (rdPacks k (q4 bs).2).2).2).1)) hTX Htv.out)
      have Hnext : Hid (rdPacks (k + 1) (q4 bs).2 = ((rdPacks k (q4 bs).2).1 ++ [⟨strOf (rdText 32 (rdPacks k (q4 bs).2).2).1, strOf (rdText 512 (rdText 32 (rdPacks k (q4 bs).2).2).2).1⟩], (rdText 512 (rdText 32 (rdPacks k (q4 bs).2).2).2).2)) := rfl
      have HX8 := Lib.hid hX7'; clear hX7 hX7' D7
      generalize strOf (rdText 32 (rdPacks k (q4 bs).2).2).1 = src at *
      generalize strOf (rdText 512 (rdText 32 (rdPacks k (q4 bs).2).2).2).1 = by_ at *
      go_upto_region 11 with fail
      generalize w7.setCell ⟨wr.heap.size, 1, none⟩ (.string by_) = w8 at *
      clear x1 y1
      have x0 : w8.cell? ⟨wr.heap.size, 0, none⟩ = some (.string src) := cell_of_heap HX8.out 0
      have x1 : w8.cell? ⟨wr.heap.size, 1, none⟩ = some (.string by_) := cell_of_heap HX8.out 1
      have c8 := D8.out.cell.1.2.2.2
      have hlt8 := lt_of_heap D8.out.heap
      have hne8 := World.new_ne w8 ⟨w1.heap.size, 3, none⟩ c8
      have hne9 := World.new_ne w8 ⟨wr.heap.size, 0, none⟩ x0
      have Htl : Hid (∀ g, tv.ownBlock = some g → w1.heap.size < g) := D8.out.lie
      have Drow : Hid (∀ o, PRow (w8.alloc o) tv (rdPacks k (q4 bs).2).1) := fun o => World.ownsRow.alloc D8.out.row o
      go_wp2_with (at_builtin; refine wpList_append_pack (by rfl) _ _ (by rfl) tv (rdPacks k (q4 bs).2).1 (by rfl) (Drow.out _) ⟨src, by_⟩ w8.heap.size (by rfl) (heap_alloc_new w8 _) Hl.out ?_; intro g m cap w9 hrow9 hg9 hat9; have D9 := Lib.hid (D8.out.append hrow9 hg9 hat9); have hh9 := (hg9.block w1.heap.size (by simp; omega) (fun e => absurd (Htl.out _ e.symm) (Nat.lt_irrefl _))).trans ((Below.heap_alloc w8 _ w1.heap.size hlt8).trans D8.out.heap); have c9 : w9.cell? ⟨w1.heap.size, 3, none⟩ = some tv := cell_of_heap hh9 3; have f9 : w9.frozen? ⟨w1.heap.size, 3, none⟩ = false := frozen_of_heap hh9 3; clear hrow9 hg9 hat9 hh9)
      go_roundw
      case rel => exact ⟨k + 1, _, by omega, by go_num, by show QDec _ _ _ _ _ _ _ _ _ _ _; rw [Hnext.out]; exact D9.out⟩
      case measure => simp [intOf]; omega
    · obtain rfl : k = n := by omega
      have e4 : rdPacks k (q4 bs).2 = q5 bs := by rw [← Hn.out]; rfl
      rw [e4] at D
      clear e4
      go_wp2_with fail
      refine (rClose_any _ b _ _ D.out.rd).mono ?_
      rintro e w6 ⟨rfl, rfl⟩
      obtain ⟨av, cv, hcv, hform⟩ := row_form D.out.row
      generalize hnl : (q5 bs).1.length = nl at *
      subst hcv
      clear hform
      obtain ⟨⟨c0, c1, c2, c3⟩, -⟩ := D.out.cell
      have hR6 := (D.out.below.block w.heap.size hwsz).trans HRb.out
      have r0 : wr.cell? ⟨w.heap.size, 0, none⟩ = some (.string ⟨#[]⟩) := cell_of_heap hR6 0
      have r1 : wr.cell? ⟨w.heap.size, 1, none⟩ = some (.int .i64 0) := cell_of_heap hR6 1
      have r2 : wr.cell? ⟨w.heap.size, 2, none⟩ = some (.int .i64 0) := cell_of_heap hR6 2
      have r3 : wr.cell? ⟨w.heap.size, 3, none⟩ = some (.slice none 0 0) := cell_of_heap hR6 3
      have g0 : wr.frozen? ⟨w.heap.size, 0, none⟩ = false := frozen_of_heap hR6 0
      have g1 : wr.frozen? ⟨w.heap.size, 1, none⟩ = false := frozen_of_heap hR6 1
      have g2 : wr.frozen? ⟨w.heap.size, 2, none⟩ = false := frozen_of_heap hR6 2
      have g3 : wr.frozen? ⟨w.heap.size, 3, none⟩ = false := frozen_of_heap hR6 3
      have HR6 := Lib.hid hR6; clear hR6
      have HBr : Hid (Below w.heap.size w wr) := Hwb.out.trans (D.out.below.mono (Nat.le_of_lt hwsz))
      generalize hcl : rdClose (q5 bs).2 = q at *
      have Hcl := Lib.hid hcl; clear hcl
      by_cases hq : q = 0
      · subst hq
        have hck : Hid (checkQ ⟨strOf (q1 bs).1, (q2 bs).1, (q3 bs).1, (q5 bs).1⟩ = checkQ (decQP bs)) := rfl
        have hz1 : (strOf (q1 bs).1).size ≤ 70368744177664 := Nat.le_trans (rdText_size 64 _) (by decide)
        have hz4 : Hid (∀ x ∈ (q5 bs).1, x.src.size ≤ 70368744177664 ∧ x.bytes.size ≤ 70368744177664) := fun x hx => by have := rdPacks_size _ _ x hx; omega
        have hnl' : nl ≤ 16 := by rw [← hnl]; unfold q5; rw [rdPacks_length]; rw [Hn.out]; exact h16
        have Hnl := Lib.hid hnl; clear hnl
        obtain ⟨cq, hcq⟩ : ∃ cq, checkQ (decQP bs) = cq := ⟨_, rfl⟩
        have Hcq := Lib.hid hcq; clear hcq
        rw [Hcq.out] at hck
        have e6 : Hid ((⟨strOf (q1 bs).1, (q2 bs).1, (q3 bs).1, (q5 bs).1⟩ : PortT) = decQP bs) := rfl
        have Hdec : Hid (decQ s = if cq ≠ 0 then (zeroQ, cq) else (decQP bs, 0)) := by
          show _ = _
          unfold decQ
          rw [Hbs.out, Hcl.out, Hcq.out, if_neg (by simp)]
        generalize strOf (q1 bs).1 = ow at *
        generalize ((q2 bs).1 : Int) = ep at *
        generalize ((q3 bs).1 : Int) = lo at *
        go_wp2_with fail
        refine (portCheck_is ow ep lo _ nl _ _ _ hck.out _ D.out.row.sl hz1 (by omega) hz4.out).mono ?_
        rintro e w7 ⟨rfl, hb7⟩
        have hR7 := (hb7.block w.heap.size (lt_of_heap HR6.out)).trans HR6.out
        have hT7 := (hb7.block w1.heap.size (lt_of_heap D.out.heap)).trans D.out.heap
        have H7 : Hid (Below w.heap.size w w7) := HBr.out.trans (hb7.mono (Nat.le_of_lt (lt_of_heap HR6.out)))
        have Hrow7 : Hid (PRow w7 (.slice av nl cv) (q5 bs).1) := D.out.row.grown (grown_of_below hb7 none) (fun k hk => by cases hk)
        clear r0 r1 r2 r3 g0 g1 g2 g3 c0 c1 c2 c3
        have c0 : w7.cell? ⟨w1.heap.size, 0, none⟩ = some (.string ow) := cell_of_heap hT7 0
        have c1 : w7.cell? ⟨w1.heap.size, 1, none⟩ = some (.int .i64 ep) := cell_of_heap hT7 1
        have c2 : w7.cell? ⟨w1.heap.size, 2, none⟩ = some (.int .i64 lo) := cell_of_heap hT7 2
        have c3 : w7.cell? ⟨w1.heap.size, 3, none⟩ = some (.slice av nl cv) := cell_of_heap hT7 3
        have r0 : w7.cell? ⟨w.heap.size, 0, none⟩ = some (.string ⟨#[]⟩) := cell_of_heap hR7 0
        have r1 : w7.cell? ⟨w.heap.size, 1, none⟩ = some (.int .i64 0) := cell_of_heap hR7 1
        have r2 : w7.cell? ⟨w.heap.size, 2, none⟩ = some (.int .i64 0) := cell_of_heap hR7 2
        have r3 : w7.cell? ⟨w.heap.size, 3, none⟩ = some (.slice none 0 0) := cell_of_heap hR7 3
        have g0 : w7.frozen? ⟨w.heap.size, 0, none⟩ = false := frozen_of_heap hR7 0
        have g1 : w7.frozen? ⟨w.heap.size, 1, none⟩ = false := frozen_of_heap hR7 1
        have g2 : w7.frozen? ⟨w.heap.size, 2, none⟩ = false := frozen_of_heap hR7 2
        have g3 : w7.frozen? ⟨w.heap.size, 3, none⟩ = false := frozen_of_heap hR7 3
        clear hR7 hT7 hb7
        by_cases hq : cq = 0
        · subst hq
          have he : Hid (decQ s = (decQP bs, 0)) := Hdec.out.trans (by simp)
          go_wp2
          refine bodyPost_ret (v := .tuple #[.agg #[.string ow, .int .i64 ep, .int .i64 lo, .slice av nl cv], .int .i64 0]) (by simp [results, Tryz.results53, go_sem, r0, r1, r2, r3]) rfl ?_
          rw [he.out]
          have hlie := D.out.lie
          have hlow := D.out.low
          show PortPost w (decQP bs) 0 _ _
          rw [← e6.out]
          exact port_post (p := ⟨ow, ep, lo, (q5 bs).1⟩) (e := 0) H7.out (grown_set4 _ _ (.string ow) (.int .i64 ep) (.int .i64 lo) (.slice av nl cv)) Hrow7.out (fun g hg => by have := hlie g hg; omega)
        · have hq' : ((cq : Int) != 0) = true := bne_iff_ne.2 (by omega)
          have he : Hid (decQ s = (zeroQ, cq)) := Hdec.out.trans (if_pos hq)
          clear hq
          go_wp2
          refine bodyPost_ret (v := .tuple #[.agg #[.string ⟨#[]⟩, .int .i64 0, .int .i64 0, .slice none 0 0], .int .i64 cq]) (by simp [results, Tryz.results53, go_sem, r0, r1, r2, r3]) rfl ?_
          rw [he.out]
          exact nilQ_post H7.out (grown_set4 _ _ _ _ _ _)
      · have hq' : ((q : Int) != 0) = true := bne_iff_ne.2 (by omega)
        have he : Hid (decQ s = (zeroQ, q)) := by
          show _ = _
          unfold decQ
          rw [Hbs.out, Hcl.out, if_pos hq]
        clear hq
        go_wp2
        refine bodyPost_ret (v := .tuple #[.agg #[.string ⟨#[]⟩, .int .i64 0, .int .i64 0, .slice none 0 0], .int .i64 q]) (by simp [results, Tryz.results53, go_sem, r0, r1, r2, r3]) rfl ?_
        rw [he.out]
        exact nilQ_post HBr.out (grown_set4 _ _ _ _ _ _)

end Go.Proofs.YtijfdgoeppehlaaGreatDoor
