/- terminal: Decode. terminal: Decode, the walk. -/
import Derived.Test.YtfobmfenjdiimaaGreatDoorTermB
import Derived.Lib.ConvBytes
import Derived.Deep.RegionLaw
import Derived.BigRegion
namespace Go.Proofs.YtfobmfenjdiimaaGreatDoor
open Go.RowKit
attribute [local go_sem ↓] Go.wp_at_zero Go.wp_at_succ

/-- The texts that follow each other. -/
def rdTexts : Nat → RdS → List ByteArray × RdS
  | 0, s => ([], s)
  | k + 1, s => ((rdTexts k s).1 ++ [strOf (rdText 1024 (rdTexts k s).2).1], (rdText 1024 (rdTexts k s).2).2)
def rd1 (bs : List UInt8) := rdNum 1073741824 ⟨bs, 0⟩
def rd2 (bs : List UInt8) := rdText 65536 (rd1 bs).2
def rd3 (bs : List UInt8) := rdNum 16 (rd2 bs).2
def rd4 (bs : List UInt8) := rdTexts (rd3 bs).1 (rd3 bs).2
def rd5 (bs : List UInt8) := rdText 2048 (rd4 bs).2
def decP (bs : List UInt8) : TermT := ⟨(rd1 bs).1, strOf (rd2 bs).1, (rd4 bs).1, strOf (rd5 bs).1⟩
/-- What Decode answers. -/
def decT (s : ByteArray) : TermT × Nat := if rdClose (rd5 s.data.toList).2 = 0 ∧ checkT (decP s.data.toList) = 0 then (decP s.data.toList, 0) else (⟨0, ⟨#[]⟩, [], ⟨#[]⟩⟩, 3)

def SRow (w : World) (v : Value) (ls : List ByteArray) : Prop := w.ownsRow 0 9 1 v ls.length (ls.map Value.string)
theorem Tryz.infoStr : (Tryz.prog.info? 9).map (fun i => (i.zero, i.size, i.bytes)) = some (some (.string ⟨#[]⟩), 1, 16) := by kernel_rfl

theorem rdTexts_length (k : Nat) (s : RdS) : (rdTexts k s).1.length = k := by
  induction k with
  | zero => rfl
  | succ k ih => simp [rdTexts, ih]
theorem rdTexts_size (k : Nat) (s : RdS) : ∀ x ∈ (rdTexts k s).1, x.size ≤ 16777216 := by
  induction k with
  | zero => simp [rdTexts]
  | succ k ih =>
    intro x hx
    simp only [rdTexts, List.mem_append, List.mem_singleton] at hx
    rcases hx with hx | rfl
    · exact ih x hx
    · exact rdText_size _ _

theorem SRow.sl {w : World} {a : Option Addr} {n c : Nat} {ls : List ByteArray} (h : SRow w (.slice a n c) ls) : SSl w a n ls := by
  rcases h.2 with ⟨hv, h0⟩ | ⟨g, cap, cur, hv, _⟩
  · cases hv
    exact ⟨h0, fun h => absurd h (Nat.lt_irrefl _)⟩
  · have hcs := World.ownsRow.cells h (g := g) (by rw [hv]; rfl)
    simp only [Value.slice.injEq] at hv
    obtain ⟨rfl, rfl, rfl⟩ := hv
    refine ⟨rfl, fun _ => ⟨g, 0, rfl, fun j hj => ?_⟩⟩
    have h1 := hcs j (.string (ls.getD j ⟨#[]⟩)) (by simp [hj])
    have hadd : (⟨g, 0, none⟩ : Addr).add j = ⟨g, 0 + j, none⟩ := by unfold Addr.add; split <;> simp_all
    rw [hadd] at h1
    exact h1

/-- append of one string to a row of strings. -/
theorem step_append_string {ops : Array Oper} {o : Oper} {a : Act} {K : Act → World → Prop} {Q : Exit → Act → World → Prop} {E : Prop} (hgd : o.guard = none) (s x : Operand)
    (ho : o.op = .call { callee := .builtin .append, args := #[s, x], argTypes := #[36, 36] }) {w : World} (v : Value) (ls : List ByteArray) (hs : a.eval s = v) (hrow : SRow w v ls)
    (c : ByteArray) (B : Nat) (hx : a.eval x = .slice (some ⟨B, 0, none⟩) 1 1) (hB : w.heap[B]? = some (.cells #[.string c] 9 (0, 0))) (hlen : ls.length ≤ 1000000)
    (h : ∀ g n cap w', SRow w' (.slice (some ⟨g, 0, none⟩) n cap) (ls ++ [c]) → w.grownBy w' v.ownBlock → (v.ownBlock = some g ∨ g = w.heap.size) → K (a.put o.dst (.slice (some ⟨g, 0, none⟩) n cap)) w') :
    if Region.wanted o (yielded ops a.tmps) = true then Oper.wp Tryz.prog o a w K Q else E := by
  obtain ⟨i0, hi, hz0, hz1, hz2⟩ := info_parts Tryz.infoStr
  refine step_append_lies _ hgd s x 36 ho 0 9 i0 (.string ⟨#[]⟩) 1 16 Tryz.underlying36 hi hz0 hz1 hz2 rfl (by decide) v ls.length (ls.map Value.string) hs hrow ⟨B, 0, none⟩ 1 1 [.string c] hx rfl
    (World.news_of_block hB) (by simp [Value.oneCell']) (by decide) (by unfold maxLen; omega) (by omega) (Nat.zero_le _) w.heap.size rfl ?_
  intro g cap w' h2 h3 h4 _
  refine h g _ cap w' ?_ h3 h4
  unfold SRow
  simpa using h2
theorem wpList_append_string {ops : Array Oper} {rest : List Oper} {o : Oper} {a : Act} {Q : Exit → Act → World → Prop} (hgd : o.guard = none) (s x : Operand)
    (ho : o.op = .call { callee := .builtin .append, args := #[s, x], argTypes := #[36, 36] }) {w : World} (v : Value) (ls : List ByteArray) (hs : a.eval s = v) (hrow : SRow w v ls)
    (c : ByteArray) (B : Nat) (hx : a.eval x = .slice (some ⟨B, 0, none⟩) 1 1) (hB : w.heap[B]? = some (.cells #[.string c] 9 (0, 0))) (hlen : ls.length ≤ 1000000)
    (h : ∀ g n cap w', SRow w' (.slice (some ⟨g, 0, none⟩) n cap) (ls ++ [c]) → w.grownBy w' v.ownBlock → (v.ownBlock = some g ∨ g = w.heap.size) → wpList Tryz.prog ops Q rest (a.put o.dst (.slice (some ⟨g, 0, none⟩) n cap)) w') :
    wpList Tryz.prog ops Q (o :: rest) a w := by
  obtain ⟨i0, hi, hz0, hz1, hz2⟩ := info_parts Tryz.infoStr
  refine wpList_append_lies _ hgd s x 36 ho 0 9 i0 (.string ⟨#[]⟩) 1 16 Tryz.underlying36 hi hz0 hz1 hz2 rfl (by decide) v ls.length (ls.map Value.string) hs hrow ⟨B, 0, none⟩ 1 1 [.string c] hx rfl
    (World.news_of_block hB) (by simp [Value.oneCell']) (by decide) (by unfold maxLen; omega) (by omega) (Nat.zero_le _) w.heap.size rfl ?_
  intro g cap w' h2 h3 h4 _
  refine h g _ cap w' ?_ h3 h4
  unfold SRow
  simpa using h2

/-- The blocks of the reader. -/
def Sr (L T k : Nat) : Prop := L ≤ k ∧ k < T
/-- In the midst of Decode. -/
structure DecAt (wa : World) (L T b : Nat) (wr : World) (ep : Int) (se : ByteArray) (ls : List ByteArray) (sc : ByteArray) (s : RdS) (tv : Value) : Prop where
  heap : wr.heap[T]? = some (.cells #[.int .i64 ep, .string se, tv, .string sc] 38 (0, 0))
  row : SRow wr tv ls
  lie : ∀ g, tv.ownBlock = some g → T < g
  rd : Rd (Sr L T) b wr s
  below : Below L wa wr
  low : L ≤ T
  wlow : L ≤ wa.heap.size

theorem SRow.grown {w w' : World} {v : Value} {ls : List ByteArray} {row : Option Nat} (h : SRow w v ls) (hb : w.grownBy w' row) (hr : ∀ k, row = some k → v.ownBlock ≠ some k) : SRow w' v ls :=
  row_kept h (fun g hg => by
    obtain ⟨cur, hc⟩ := row_lt h hg
    exact hb.block g (lt_of_heap hc) (fun e => hr g e.symm hg))

/-- After a call of the reader. -/
theorem DecAt.read {wa : World} {L T b : Nat} {wr w1 : World} {ep : Int} {se : ByteArray} {ls : List ByteArray} {sc : ByteArray} {s s' : RdS} {tv : Value} (h : DecAt wa L T b wr ep se ls sc s tv) (hr : Rd (Sr L T) b w1 s') (hg : wr.grownBy w1 (some b)) :
    DecAt wa L T b w1 ep se ls sc s' tv where
  heap := (hg.block T (lt_of_heap h.heap) (fun e => by cases e; exact absurd hr.1.2 (Nat.lt_irrefl _))).trans h.heap
  row := h.row.grown hg (fun k hk e => by cases hk; have := h.lie b e; have := hr.1.2; omega)
  lie := h.lie
  rd := hr
  below := Below.grownRow h.below hg h.wlow (fun k hk => by cases hk; exact hr.1.1)
  low := h.low
  wlow := h.wlow

theorem DecAt.store {wa : World} {L T b : Nat} {wr : World} {ep : Int} {se : ByteArray} {ls : List ByteArray} {sc : ByteArray} {s : RdS} {tv : Value} (h : DecAt wa L T b wr ep se ls sc s tv) (i : Nat) (v : Value) (ep' : Int) (se' sc' : ByteArray)
    (he : (#[.int .i64 ep, .string se, tv, .string sc] : Array Value).setIfInBounds i v = #[.int .i64 ep', .string se', tv, .string sc']) : DecAt wa L T b (wr.setCell ⟨T, i, none⟩ v) ep' se' ls sc' s tv where
  heap := by rw [heap_setCell_same h.heap, he]
  row := h.row.grown (grown_setCell _ _ _ _) (fun k hk e => by cases hk; exact absurd (h.lie T e) (Nat.lt_irrefl _))
  lie := h.lie
  rd := h.rd.grown (grown_setCell _ _ _ _) (fun k hk e => by cases hk; exact absurd e.2 (Nat.lt_irrefl _))
  below := h.below.setCell h.low _
  low := h.low
  wlow := h.wlow

theorem DecAt.append {wa : World} {L T b : Nat} {wr w2 : World} {ep : Int} {se : ByteArray} {ls ls' : List ByteArray} {sc : ByteArray} {s : RdS} {tv : Value} {o : Obj} {g n cap : Nat} (h : DecAt wa L T b wr ep se ls sc s tv)
    (hrow : SRow w2 (.slice (some ⟨g, 0, none⟩) n cap) ls') (hg : (wr.alloc o).grownBy w2 tv.ownBlock) (hat : tv.ownBlock = some g ∨ g = (wr.alloc o).heap.size) :
    DecAt wa L T b (w2.setCell ⟨T, 2, none⟩ (.slice (some ⟨g, 0, none⟩) n cap)) ep se ls' sc s (.slice (some ⟨g, 0, none⟩) n cap) := by
  have hT := lt_of_heap h.heap
  have hgT : T < g := by
    rcases hat with e | e
    · exact h.lie g e
    · rw [e]; simp; omega
  have hg' : wr.grownBy w2 tv.ownBlock := ⟨hg.os, hg.tape, hg.output, Nat.le_trans (by simp) hg.size, fun k hk hne => (hg.block k (by simp; omega) hne).trans (Below.heap_alloc wr _ k hk)⟩
  have h2 : w2.heap[T]? = _ := (hg'.block T hT (fun e => absurd (h.lie T e.symm) (Nat.lt_irrefl _))).trans h.heap
  refine ⟨heap_setCell_same h2 2 _, hrow.grown (grown_setCell _ _ _ _) (fun k hk e => ?_), fun k hk => ?_, (h.rd.grown hg' (fun k hk e => ?_)).grown (grown_setCell _ _ _ _) (fun k hk e => by cases hk; exact absurd e.2 (Nat.lt_irrefl _)), ?_, h.low, h.wlow⟩
  · cases hk
    simp [Value.ownBlock] at e
    omega
  · simp [Value.ownBlock] at hk
    omega
  · have := h.lie k hk
    have := e.2
    omega
  · exact (Below.grownRow h.below hg' h.wlow (fun k hk => by have := h.lie k hk; have := h.low; omega)).setCell h.low _

/-- What Decode leaves. -/
def TermPost (w : World) (t : TermT) (e : Nat) (r : Ending) (w' : World) : Prop :=
  ∃ a n c, r = .returned (.tuple #[.agg #[.int .i64 t.epoch, .string t.session, .slice a n c, .string t.screen], .int .i64 e]) ∧ SRow w' (.slice a n c) t.typed ∧ (∀ g, (Value.slice a n c).ownBlock = some g → w.heap.size ≤ g) ∧ Below w.heap.size w w'

end Go.Proofs.YtfobmfenjdiimaaGreatDoor

namespace Go.Proofs.YtfobmfenjdiimaaGreatDoor
open Go.RowKit
attribute [local go_sem ↓] Go.wp_at_zero Go.wp_at_succ

theorem DecAt.drew {wa : World} {L T b : Nat} {wr : World} {ep : Int} {se : ByteArray} {ls : List ByteArray} {sc : ByteArray} {s : RdS} {tv : Value} (h : DecAt wa L T b wr ep se ls sc s tv) : DecAt wa L T b wr.drew ep se ls sc s tv :=
  ⟨h.heap, h.row, h.lie, h.rd, h.below.drew, h.low, h.wlow⟩
theorem DecAt.cell {wa : World} {L T b : Nat} {wr : World} {ep : Int} {se : ByteArray} {ls : List ByteArray} {sc : ByteArray} {s : RdS} {tv : Value} (h : DecAt wa L T b wr ep se ls sc s tv) :
    (wr.cell? ⟨T, 0, none⟩ = some (.int .i64 ep) ∧ wr.cell? ⟨T, 1, none⟩ = some (.string se) ∧ wr.cell? ⟨T, 2, none⟩ = some tv ∧ wr.cell? ⟨T, 3, none⟩ = some (.string sc)) ∧ ∀ i, wr.frozen? ⟨T, i, none⟩ = false :=
  ⟨⟨cell_of_heap h.heap 0, cell_of_heap h.heap 1, cell_of_heap h.heap 2, cell_of_heap h.heap 3⟩, fun i => frozen_of_heap h.heap i⟩

theorem decT_ok {s : ByteArray} (h1 : rdClose (rd5 s.data.toList).2 = 0) (h2 : checkT (decP s.data.toList) = 0) : decT s = (decP s.data.toList, 0) := by simp [decT, h1, h2]
theorem decT_close {s : ByteArray} (h1 : rdClose (rd5 s.data.toList).2 ≠ 0) : decT s = (⟨0, ⟨#[]⟩, [], ⟨#[]⟩⟩, 3) := by simp [decT, h1]
theorem decT_check {s : ByteArray} (h1 : checkT (decP s.data.toList) ≠ 0) : decT s = (⟨0, ⟨#[]⟩, [], ⟨#[]⟩⟩, 3) := by simp [decT, h1]

theorem term_post {w wx X : World} {t : TermT} {e : Nat} {a : Option Addr} {n c : Nat} (hb : Below w.heap.size w wx) (hg : wx.grownBy X (some w.heap.size)) (hr : SRow wx (.slice a n c) t.typed) (hl : ∀ g, (Value.slice a n c).ownBlock = some g → w.heap.size < g) :
    TermPost w t e (.returned (.tuple #[.agg #[.int .i64 t.epoch, .string t.session, .slice a n c, .string t.screen], .int .i64 e])) X :=
  ⟨a, n, c, rfl, hr.grown hg (fun k hk e => by cases hk; exact absurd (hl _ e) (Nat.lt_irrefl _)), fun g hg => Nat.le_of_lt (hl g hg), Below.grownRow hb hg (Nat.le_refl _) (fun k hk => by cases hk; exact Nat.le_refl _)⟩
theorem nil_post {w wx X : World} {ep : Int} {e : Nat} (hb : Below w.heap.size w wx) (hg : wx.grownBy X (some w.heap.size)) :
    TermPost w ⟨ep, ⟨#[]⟩, [], ⟨#[]⟩⟩ e (.returned (.tuple #[.agg #[.int .i64 ep, .string ⟨#[]⟩, .slice none 0 0, .string ⟨#[]⟩], .int .i64 e])) X :=
  term_post hb hg (World.ownsRow_nil _ _ _ _) (fun g hg => by cases hg)

set_option maxRecDepth 100000 in
set_option maxHeartbeats 4000000 in
theorem decode_any (s : ByteArray) (w : World) (_hs : s.size ≤ 70368744177664) (hs2 : s.size ≤ 35184372088832) : Calls Tryz.prog 49 #[.string s] w (TermPost w (decT s).1 (decT s).2) := by
  have hconv := Lib.run_convert_string_bytes (P := Tryz.prog) (w.alloc (.cells #[.int .i64 0, .string ⟨#[]⟩, .slice none 0 0, .string ⟨#[]⟩] 38)) 9 48 5 s Tryz.underlying9 Tryz.underlying48 Tryz.underlying5
  have hR : (w.alloc (.cells #[.int .i64 0, .string ⟨#[]⟩, .slice none 0 0, .string ⟨#[]⟩] 38)).heap[w.heap.size]? = some (.cells #[.int .i64 0, .string ⟨#[]⟩, .slice none 0 0, .string ⟨#[]⟩] 38 (0, 0)) := World.alloc_heap_new w _
  have hbw := bytesWorld_below (w.alloc (.cells #[.int .i64 0, .string ⟨#[]⟩, .slice none 0 0, .string ⟨#[]⟩] 38)) 5 s
  have hsrc : BSrc (Lib.bytesWorld (w.alloc (.cells #[.int .i64 0, .string ⟨#[]⟩, .slice none 0 0, .string ⟨#[]⟩] 38)) 5 s) (.slice (some ⟨w.heap.size + 1, 0, none⟩) s.size (grownCap (w.alloc (.cells #[.int .i64 0, .string ⟨#[]⟩, .slice none 0 0, .string ⟨#[]⟩] 38)) s.size 0 5)) s.data.toList := by
    refine .inr ⟨_, _, _, rfl, (size_toList s).symm, fun j u hu => ?_⟩
    have hj : j < s.size := by
      rw [← size_toList]
      rcases Nat.lt_or_ge j s.data.toList.length with h | h
      · exact h
      · rw [List.getElem?_eq_none (by simpa using h)] at hu; cases hu
    have hadd : (⟨w.heap.size + 1, 0, none⟩ : Addr).add j = ⟨w.heap.size + 1, j, none⟩ := by unfold Addr.add; split <;> simp_all
    rw [hadd]
    have := Lib.bytesWorld_cell (w.alloc (.cells #[.int .i64 0, .string ⟨#[]⟩, .slice none 0 0, .string ⟨#[]⟩] 38)) 5 s j hj
    rw [World.size_alloc] at this
    rw [this, ← hu]
    have hj' : j < s.data.toList.length := by rw [size_toList]; exact hj
    simp only [List.getElem?_map, List.getElem?_eq_getElem hj', Option.map_some, byteV, List.getD_eq_getElem?_getD, Option.getD_some]
  rw [World.size_alloc] at hconv
  have hRb := (hbw.block w.heap.size (by simp)).trans hR
  have Hwb : Hid (Below w.heap.size w (Lib.bytesWorld (w.alloc (.cells #[.int .i64 0, .string ⟨#[]⟩, .slice none 0 0, .string ⟨#[]⟩] 38)) 5 s)) := ((Below.refl _ _).alloc (Nat.le_refl _) _).trans (hbw.mono (by simp))
  have hwsz : w.heap.size < (Lib.bytesWorld (w.alloc (.cells #[.int .i64 0, .string ⟨#[]⟩, .slice none 0 0, .string ⟨#[]⟩] 38)) 5 s).heap.size := by rw [Lib.bytesWorld_size]; simp; omega
  have Hsrc := Lib.hid hsrc; clear hsrc hbw hR
  have HRb := Lib.hid hRb; clear hRb
  have Hlen : Hid (s.data.toList.length ≤ 35184372088832) := by show _ ≤ _; rw [size_toList]; exact hs2
  clear hs2
  go_enter Tryz.func49, Tryz.ntmps49
  go_wp2_with fail
  generalize Lib.bytesWorld (w.alloc (.cells #[.int .i64 0, .string ⟨#[]⟩, .slice none 0 0, .string ⟨#[]⟩] 38)) 5 s = wb at *
  refine (newReader_any _ s.data.toList _ Hlen.out Hsrc.out (by simp)).mono ?_
  rintro e w1 ⟨b, rfl, hrd, hb1⟩
  clear hconv Hsrc
  have D0 : Hid (DecAt wb wb.heap.size w1.heap.size b (w1.alloc (.cells #[.int .i64 0, .string ⟨#[]⟩, .slice none 0 0, .string ⟨#[]⟩] 38)) 0 ⟨#[]⟩ [] ⟨#[]⟩ ⟨s.data.toList, 0⟩ (.slice none 0 0)) :=
    ⟨heap_alloc_new w1 _, World.ownsRow_nil _ _ _ _, (fun g hg => by cases hg), Rd.later hrd ((Below.refl _ _).alloc (Nat.le_refl _) _), hb1.alloc hb1.size _, hb1.size, Nat.le_refl _⟩
  clear hrd hb1
  generalize hbs : s.data.toList = bs at *
  have Hbs := Lib.hid hbs; clear hbs
  go_wp2_with fail
  refine (rNumber_any _ b 1073741824 _ _ D0.out.rd).mono ?_
  rintro e w2 ⟨rfl, hr, hg⟩
  have D1 := Lib.hid (D0.out.read hr hg); clear hr hg D0
  obtain ⟨⟨c0, -, -, -⟩, hf⟩ := D1.out.cell
  have f0 := hf 0
  clear hf
  have D1' : Hid (DecAt wb wb.heap.size w1.heap.size b (w2.setCell ⟨w1.heap.size, 0, none⟩ (.int .i64 (rd1 bs).1)) (rd1 bs).1 ⟨#[]⟩ [] ⟨#[]⟩ (rd1 bs).2 (.slice none 0 0)) := D1.out.store 0 _ _ _ _ rfl
  clear D1
  have e1 : rdNum 1073741824 ⟨bs, 0⟩ = rd1 bs := rfl
  rw [e1]
  clear e1
  go_wp2_with fail
  refine (rText_any _ b 65536 _ _ D1'.out.rd).mono ?_
  rintro e w3 ⟨rfl, hr, hg⟩
  have D2 := Lib.hid (D1'.out.read hr hg); clear hr hg D1' c0 f0
  obtain ⟨⟨-, c1, -, -⟩, hf⟩ := D2.out.cell
  have f1 := hf 1
  clear hf
  have e2 : rdText 65536 (rd1 bs).2 = rd2 bs := rfl
  rw [e2]
  rw [e2] at D2
  clear e2
  have D2' : Hid (DecAt wb wb.heap.size w1.heap.size b (w3.setCell ⟨w1.heap.size, 1, none⟩ (.string (strOf (rd2 bs).1))) (rd1 bs).1 (strOf (rd2 bs).1) [] ⟨#[]⟩ (rd2 bs).2 (.slice none 0 0)) := D2.out.store 1 _ _ _ _ rfl
  clear D2
  go_wp2_with fail
  refine (rNumber_any _ b 16 _ _ D2'.out.rd).mono ?_
  rintro e w4 ⟨rfl, hr, hg⟩
  have D3 := Lib.hid (D2'.out.read hr hg); clear hr hg D2' c1 f1
  have e3 : rdNum 16 (rd2 bs).2 = rd3 bs := rfl
  have h16 : (rd3 bs).1 ≤ 16 := rdNum_le 16 _
  rw [e3]
  rw [e3] at D3
  clear e3
  generalize hn : (rd3 bs).1 = n at *
  have Hn := Lib.hid hn; clear hn
  go_wp2
  go_loopw [17] (fun i wr => ∃ (k : Nat) (tv : Value), k ≤ n ∧ i = .int .i64 k ∧ Hid (DecAt wb wb.heap.size w1.heap.size b wr (rd1 bs).1 (strOf (rd2 bs).1) (rdTexts k (rd3 bs).2).1 ⟨#[]⟩ (rdTexts k (rd3 bs).2).2 tv)) (fun i _ => n - (intOf i).toNat)
  case atStart => exact ⟨0, _, by omega, rfl, D3.out⟩
  case round =>
    obtain ⟨k, tv, hk, rfl, D⟩ := hrel
    clear D3
    by_cases h4 : k < n
    · have Dd := Lib.hid D.out.drew
      obtain ⟨⟨-, -, c2, -⟩, -⟩ := D.out.cell
      have Hl : Hid ((rdTexts k (rd3 bs).2).1.length ≤ 1000000) := by show _ ≤ _; rw [rdTexts_length]; omega
      have Htv : Hid (∀ g, tv.ownBlock = some g → w1.heap.size < g) := D.out.lie
      go_wp2
      go_region_law (first
        | (refine step_append_string (by rfl) _ _ (by rfl) tv (rdTexts k (rd3 bs).2).1 (by rfl) (Drow.out _) _ w5.heap.size (by rfl) (heap_alloc_new w5 _) Hl.out ?_; intro g m cap w6 hrow6 hg6 hat6; have D6 := Lib.hid (D5.out.append hrow6 hg6 hat6); have hh6 := (hg6.block w1.heap.size (by simp; omega) (fun e => absurd (Htv.out _ e.symm) (Nat.lt_irrefl _))).trans ((Below.heap_alloc w5 _ w1.heap.size hlt5).trans D5.out.heap); have c6 : w6.cell? ⟨w1.heap.size, 2, none⟩ = some tv := cell_of_heap hh6 2; have f6 : w6.frozen? ⟨w1.heap.size, 2, none⟩ = false := frozen_of_heap hh6 2; clear hrow6 hg6 hat6 hh6)
        | (go_simp; go_at_call 87; refine (rText_any _ b 1024 _ _ Dd.out.rd).mono ?_; rintro e w5 ⟨rfl, hr, hg⟩; have D5 := Lib.hid (Dd.out.read hr hg); clear hr hg; have c5 := D5.out.cell.1.2.2.1; have hlt5 := lt_of_heap D5.out.heap; have hne5 := World.new_ne w5 ⟨w1.heap.size, 2, none⟩ c5; have Drow : Hid (∀ o, SRow (w5.alloc o) tv (rdTexts k (rd3 bs).2).1) := fun o => World.ownsRow.alloc D5.out.row o))
      all_goals
        go_wp2
        go_roundw
        case rel => exact ⟨k + 1, _, by omega, by go_num, D6.out⟩
        case measure => simp [intOf]; omega
    · obtain rfl : k = n := by omega
      have e4 : rdTexts k (rd3 bs).2 = rd4 bs := by rw [← Hn.out]; rfl
      rw [e4] at D
      clear e4
      go_wp2_with fail
      refine (rText_any _ b 2048 _ _ D.out.rd).mono ?_
      rintro e w5 ⟨rfl, hr, hg⟩
      have D5 := Lib.hid (D.out.read hr hg); clear hr hg D
      obtain ⟨⟨-, -, -, c3⟩, hf⟩ := D5.out.cell
      have f3 := hf 3
      clear hf
      have e5 : rdText 2048 (rd4 bs).2 = rd5 bs := rfl
      rw [e5]
      rw [e5] at D5
      clear e5
      have D6 : Hid (DecAt wb wb.heap.size w1.heap.size b (w5.setCell ⟨w1.heap.size, 3, none⟩ (.string (strOf (rd5 bs).1))) (rd1 bs).1 (strOf (rd2 bs).1) (rd4 bs).1 (strOf (rd5 bs).1) (rd5 bs).2 tv) := D5.out.store 3 _ _ _ _ rfl
      clear D5
      go_wp2_with fail
      refine (rClose_any _ b _ _ D6.out.rd).mono ?_
      rintro e w6 ⟨rfl, rfl⟩
      clear c3 f3
      obtain ⟨av, cv, hcv, hform⟩ := row_form D6.out.row
      generalize hnl : (rd4 bs).1.length = nl at *
      subst hcv
      clear hform
      generalize w5.setCell ⟨w1.heap.size, 3, none⟩ (.string (strOf (rd5 bs).1)) = w6 at *
      obtain ⟨⟨c0, c1, c2, c3⟩, -⟩ := D6.out.cell
      have hR6 := (D6.out.below.block w.heap.size hwsz).trans HRb.out
      have r0 : w6.cell? ⟨w.heap.size, 0, none⟩ = some (.int .i64 0) := cell_of_heap hR6 0
      have r1 : w6.cell? ⟨w.heap.size, 1, none⟩ = some (.string ⟨#[]⟩) := cell_of_heap hR6 1
      have r2 : w6.cell? ⟨w.heap.size, 2, none⟩ = some (.slice none 0 0) := cell_of_heap hR6 2
      have r3 : w6.cell? ⟨w.heap.size, 3, none⟩ = some (.string ⟨#[]⟩) := cell_of_heap hR6 3
      have g0 : w6.frozen? ⟨w.heap.size, 0, none⟩ = false := frozen_of_heap hR6 0
      have g1 : w6.frozen? ⟨w.heap.size, 1, none⟩ = false := frozen_of_heap hR6 1
      have g2 : w6.frozen? ⟨w.heap.size, 2, none⟩ = false := frozen_of_heap hR6 2
      have g3 : w6.frozen? ⟨w.heap.size, 3, none⟩ = false := frozen_of_heap hR6 3
      have HR6 := Lib.hid hR6; clear hR6
      generalize hcl : rdClose (rd5 bs).2 = q at *
      have Hcl := Lib.hid hcl; clear hcl
      by_cases hq : q = 0
      · subst hq
        have hck : Hid (checkT ⟨(rd1 bs).1, strOf (rd2 bs).1, (rd4 bs).1, strOf (rd5 bs).1⟩ = checkT (decP bs)) := rfl
        have hz2 : (strOf (rd2 bs).1).size ≤ 70368744177664 := Nat.le_trans (rdText_size 65536 _) (by decide)
        have hz5 : (strOf (rd5 bs).1).size ≤ 70368744177664 := Nat.le_trans (rdText_size 2048 _) (by decide)
        have hz4 : Hid (∀ x ∈ (rd4 bs).1, x.size ≤ 70368744177664) := fun x hx => Nat.le_trans (rdTexts_size _ _ x hx) (by decide)
        have hnl' : nl ≤ 16 := by rw [← hnl]; unfold rd4; rw [rdTexts_length]; rw [Hn.out]; exact h16
        have Hnl := Lib.hid hnl; clear hnl
        generalize hcq : checkT (decP bs) = q at *
        have Hcq := Lib.hid hcq; clear hcq
        have e6 : Hid ((⟨(rd1 bs).1, strOf (rd2 bs).1, (rd4 bs).1, strOf (rd5 bs).1⟩ : TermT) = decP bs) := rfl
        by_cases hq : q = 0
        · subst hq
          have he : Hid (decT s = (decP bs, 0)) := by show _ = _; rw [← Hbs.out]; exact decT_ok (by rw [Hbs.out]; exact Hcl.out) (by rw [Hbs.out]; exact Hcq.out)
          have Hep : Hid ((decP bs).epoch = (rd1 bs).1) := rfl
          generalize strOf (rd2 bs).1 = se at *
          generalize strOf (rd5 bs).1 = sc at *
          generalize (rd1 bs).1 = ep at *
          go_wp2_with fail
          refine (termCheck_is _ se sc _ nl _ _ _ hck.out _ D6.out.row.sl hz2 hz5 (by omega) hz4.out).mono ?_
          rintro e w7 ⟨rfl, hb7⟩
          have hR7 := (hb7.block w.heap.size (lt_of_heap HR6.out)).trans HR6.out
          have hT7 := (hb7.block w1.heap.size (lt_of_heap D6.out.heap)).trans D6.out.heap
          have H7 : Hid (Below w.heap.size w w7) := (Hwb.out.trans (D6.out.below.mono (Nat.le_of_lt hwsz))).trans (hb7.mono (Nat.le_of_lt (lt_of_heap HR6.out)))
          have Hrow7 : Hid (SRow w7 (.slice av nl cv) (rd4 bs).1) := D6.out.row.grown (grown_of_below hb7 none) (fun k hk => by cases hk)
          clear r0 r1 r2 r3 g0 g1 g2 g3 c0 c1 c2 c3
          have c0 : w7.cell? ⟨w1.heap.size, 0, none⟩ = some (.int .i64 ep) := cell_of_heap hT7 0
          have c1 : w7.cell? ⟨w1.heap.size, 1, none⟩ = some (.string se) := cell_of_heap hT7 1
          have c2 : w7.cell? ⟨w1.heap.size, 2, none⟩ = some (.slice av nl cv) := cell_of_heap hT7 2
          have c3 : w7.cell? ⟨w1.heap.size, 3, none⟩ = some (.string sc) := cell_of_heap hT7 3
          have r0 : w7.cell? ⟨w.heap.size, 0, none⟩ = some (.int .i64 0) := cell_of_heap hR7 0
          have r1 : w7.cell? ⟨w.heap.size, 1, none⟩ = some (.string ⟨#[]⟩) := cell_of_heap hR7 1
          have r2 : w7.cell? ⟨w.heap.size, 2, none⟩ = some (.slice none 0 0) := cell_of_heap hR7 2
          have r3 : w7.cell? ⟨w.heap.size, 3, none⟩ = some (.string ⟨#[]⟩) := cell_of_heap hR7 3
          have g0 : w7.frozen? ⟨w.heap.size, 0, none⟩ = false := frozen_of_heap hR7 0
          have g1 : w7.frozen? ⟨w.heap.size, 1, none⟩ = false := frozen_of_heap hR7 1
          have g2 : w7.frozen? ⟨w.heap.size, 2, none⟩ = false := frozen_of_heap hR7 2
          have g3 : w7.frozen? ⟨w.heap.size, 3, none⟩ = false := frozen_of_heap hR7 3
          clear hR7 hT7 hb7
          go_wp2
          refine bodyPost_ret (v := .tuple #[.agg #[.int .i64 ep, .string se, .slice av nl cv, .string sc], .int .i64 0]) (by simp [results, Tryz.results49, go_sem, r0, r1, r2, r3]) rfl ?_
          rw [he.out]
          have hlie := D6.out.lie
          have hlow := D6.out.low
          show TermPost w (decP bs) 0 _ _
          rw [← e6.out]
          exact term_post (t := ⟨ep, se, (rd4 bs).1, sc⟩) (e := 0) H7.out (grown_set4 _ _ (.int .i64 ep) (.string se) (.slice av nl cv) (.string sc)) Hrow7.out (fun g hg => by have := hlie g hg; omega)
        · have hq' : ((q : Int) != 0) = true := bne_iff_ne.2 (by omega)
          have he : Hid (decT s = (⟨0, ⟨#[]⟩, [], ⟨#[]⟩⟩, 3)) := decT_check (by rw [Hbs.out, Hcq.out]; exact hq)
          clear hq
          generalize strOf (rd2 bs).1 = se at *
          generalize strOf (rd5 bs).1 = sc at *
          generalize (rd1 bs).1 = ep at *
          go_wp2_with fail
          refine (termCheck_is _ se sc _ nl _ _ _ hck.out _ D6.out.row.sl hz2 hz5 (by omega) hz4.out).mono ?_
          rintro e w7 ⟨rfl, hb7⟩
          have hR7 := (hb7.block w.heap.size (lt_of_heap HR6.out)).trans HR6.out
          have hT7 := (hb7.block w1.heap.size (lt_of_heap D6.out.heap)).trans D6.out.heap
          have H7 : Hid (Below w.heap.size w w7) := (Hwb.out.trans (D6.out.below.mono (Nat.le_of_lt hwsz))).trans (hb7.mono (Nat.le_of_lt (lt_of_heap HR6.out)))
          have Hrow7 : Hid (SRow w7 (.slice av nl cv) (rd4 bs).1) := D6.out.row.grown (grown_of_below hb7 none) (fun k hk => by cases hk)
          clear r0 r1 r2 r3 g0 g1 g2 g3 c0 c1 c2 c3
          have c0 : w7.cell? ⟨w1.heap.size, 0, none⟩ = some (.int .i64 ep) := cell_of_heap hT7 0
          have c1 : w7.cell? ⟨w1.heap.size, 1, none⟩ = some (.string se) := cell_of_heap hT7 1
          have c2 : w7.cell? ⟨w1.heap.size, 2, none⟩ = some (.slice av nl cv) := cell_of_heap hT7 2
          have c3 : w7.cell? ⟨w1.heap.size, 3, none⟩ = some (.string sc) := cell_of_heap hT7 3
          have r0 : w7.cell? ⟨w.heap.size, 0, none⟩ = some (.int .i64 0) := cell_of_heap hR7 0
          have r1 : w7.cell? ⟨w.heap.size, 1, none⟩ = some (.string ⟨#[]⟩) := cell_of_heap hR7 1
          have r2 : w7.cell? ⟨w.heap.size, 2, none⟩ = some (.slice none 0 0) := cell_of_heap hR7 2
          have r3 : w7.cell? ⟨w.heap.size, 3, none⟩ = some (.string ⟨#[]⟩) := cell_of_heap hR7 3
          have g0 : w7.frozen? ⟨w.heap.size, 0, none⟩ = false := frozen_of_heap hR7 0
          have g1 : w7.frozen? ⟨w.heap.size, 1, none⟩ = false := frozen_of_heap hR7 1
          have g2 : w7.frozen? ⟨w.heap.size, 2, none⟩ = false := frozen_of_heap hR7 2
          have g3 : w7.frozen? ⟨w.heap.size, 3, none⟩ = false := frozen_of_heap hR7 3
          clear hR7 hT7 hb7
          go_wp2
          refine bodyPost_ret (v := .tuple #[.agg #[.int .i64 0, .string ⟨#[]⟩, .slice none 0 0, .string ⟨#[]⟩], .int .i64 3]) (by simp [results, Tryz.results49, go_sem, r0, r1, r2, r3]) rfl ?_
          rw [he.out]
          exact nil_post H7.out (grown_set4 _ _ _ _ _ _)
      · have hq' : ((q : Int) != 0) = true := bne_iff_ne.2 (by omega)
        have he : Hid (decT s = (⟨0, ⟨#[]⟩, [], ⟨#[]⟩⟩, 3)) := decT_close (by rw [Hbs.out, Hcl.out]; exact hq)
        clear hq
        go_wp2
        refine bodyPost_ret (v := .tuple #[.agg #[.int .i64 0, .string ⟨#[]⟩, .slice none 0 0, .string ⟨#[]⟩], .int .i64 3]) (by simp [results, Tryz.results49, go_sem, r0, r1, r2, r3]) rfl ?_
        rw [he.out]
        exact nil_post (Hwb.out.trans (D6.out.below.mono (Nat.le_of_lt hwsz))) (grown_set4 _ _ _ _ _ _)

end Go.Proofs.YtfobmfenjdiimaaGreatDoor
