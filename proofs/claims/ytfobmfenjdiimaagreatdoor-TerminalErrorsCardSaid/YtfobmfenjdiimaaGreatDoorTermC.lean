/- terminal: Decode. -/
import Derived.Test.YtfobmfenjdiimaaGreatDoorTermB
import Derived.Lib.ConvBytes
import Derived.Deep.RegionLaw
import Derived.BigRegion
namespace Go.Proofs.YtfobmfenjdiimaaGreatDoor
open Go.RowKit
attribute [local go_sem ↓] Go.wp_at_zero Go.wp_at_succ

/-- The texts that follow each other. -/
def rdTexts : Nat → RdS → List ByteArray × RdS
  | 0, s => ([], s)
  | k + 1, s => ((rdTexts k s).1 ++ [strOf (rdText 1024 (rdTexts k s).2).1], (rdText 1024 (rdTexts k s).2).2)
def rd1 (bs : List UInt8) := rdNum 1073741824 ⟨bs, 0⟩
def rd2 (bs : List UInt8) := rdText 65536 (rd1 bs).2
def rd3 (bs : List UInt8) := rdNum 16 (rd2 bs).2
def rd4 (bs : List UInt8) := rdTexts (rd3 bs).1 (rd3 bs).2
def rd5 (bs : List UInt8) := rdText 2048 (rd4 bs).2
def decP (bs : List UInt8) : TermT := ⟨(rd1 bs).1, strOf (rd2 bs).1, (rd4 bs).1, strOf (rd5 bs).1⟩
/-- What Decode answers. -/
def decT (s : ByteArray) : TermT × Nat := if rdClose (rd5 s.data.toList).2 = 0 ∧ checkT (decP s.data.toList) = 0 then (decP s.data.toList, 0) else (⟨0, ⟨#[]⟩, [], ⟨#[]⟩⟩, 3)

def SRow (w : World) (v : Value) (ls : List ByteArray) : Prop := w.ownsRow 0 9 1 v ls.length (ls.map Value.string)
theorem Tryz.infoStr : (Tryz.prog.info? 9).map (fun i => (i.zero, i.size, i.bytes)) = some (some (.string ⟨#[]⟩), 1, 16) := by kernel_rfl

theorem rdTexts_length (k : Nat) (s : RdS) : (rdTexts k s).1.length = k := by
  induction k with
  | zero => rfl
  | succ k ih => simp [rdTexts, ih]
theorem rdTexts_size (k : Nat) (s : RdS) : ∀ x ∈ (rdTexts k s).1, x.size ≤ 16777216 := by
  induction k with
  | zero => simp [rdTexts]
  | succ k ih =>
    intro x hx
    simp only [rdTexts, List.mem_append, List.mem_singleton] at hx
    rcases hx with hx | rfl
    · exact ih x hx
    · exact rdText_size _ _

theorem SRow.sl {w : World} {a : Option Addr} {n c : Nat} {ls : List ByteArray} (h : SRow w (.slice a n c) ls) : SSl w a n ls := by
  rcases h.2 with ⟨hv, h0⟩ | ⟨g, cap, cur, hv, _⟩
  · cases hv
    exact ⟨h0, fun h => absurd h (Nat.lt_irrefl _)⟩
  · have hcs := World.ownsRow.cells h (g := g) (by rw [hv]; rfl)
    simp only [Value.slice.injEq] at hv
    obtain ⟨rfl, rfl, rfl⟩ := hv
    refine ⟨rfl, fun _ => ⟨g, 0, rfl, fun j hj => ?_⟩⟩
    have h1 := hcs j (.string (ls.getD j ⟨#[]⟩)) (by simp [hj])
    have hadd : (⟨g, 0, none⟩ : Addr).add j = ⟨g, 0 + j, none⟩ := by unfold Addr.add; split <;> simp_all
    rw [hadd] at h1
    exact h1

/-- append of one string to a row of strings. -/
theorem step_append_string {ops : Array Oper} {o : Oper} {a : Act} {K : Act → World → Prop} {Q : Exit → Act → World → Prop} {E : Prop} (hgd : o.guard = none) (s x : Operand)
    (ho : o.op = .call { callee := .builtin .append, args := #[s, x], argTypes := #[36, 36] }) {w : World} (v : Value) (ls : List ByteArray) (hs : a.eval s = v) (hrow : SRow w v ls)
    (c : ByteArray) (B : Nat) (hx : a.eval x = .slice (some ⟨B, 0, none⟩) 1 1) (hB : w.heap[B]? = some (.cells #[.string c] 9 (0, 0))) (hlen : ls.length ≤ 1000000)
    (h : ∀ g n cap w', SRow w' (.slice (some ⟨g, 0, none⟩) n cap) (ls ++ [c]) → w.grownBy w' v.ownBlock → (v.ownBlock = some g ∨ g = w.heap.size) → K (a.put o.dst (.slice (some ⟨g, 0, none⟩) n cap)) w') :
    if Region.wanted o (yielded ops a.tmps) = true then Oper.wp Tryz.prog o a w K Q else E := by
  obtain ⟨i0, hi, hz0, hz1, hz2⟩ := info_parts Tryz.infoStr
  refine step_append_lies _ hgd s x 36 ho 0 9 i0 (.string ⟨#[]⟩) 1 16 Tryz.underlying36 hi hz0 hz1 hz2 rfl (by decide) v ls.length (ls.map Value.string) hs hrow ⟨B, 0, none⟩ 1 1 [.string c] hx rfl
    (World.news_of_block hB) (by simp [Value.oneCell']) (by decide) (by unfold maxLen; omega) (by omega) (Nat.zero_le _) w.heap.size rfl ?_
  intro g cap w' h2 h3 h4 _
  refine h g _ cap w' ?_ h3 h4
  unfold SRow
  simpa using h2
theorem wpList_append_string {ops : Array Oper} {rest : List Oper} {o : Oper} {a : Act} {Q : Exit → Act → World → Prop} (hgd : o.guard = none) (s x : Operand)
    (ho : o.op = .call { callee := .builtin .append, args := #[s, x], argTypes := #[36, 36] }) {w : World} (v : Value) (ls : List ByteArray) (hs : a.eval s = v) (hrow : SRow w v ls)
    (c : ByteArray) (B : Nat) (hx : a.eval x = .slice (some ⟨B, 0, none⟩) 1 1) (hB : w.heap[B]? = some (.cells #[.string c] 9 (0, 0))) (hlen : ls.length ≤ 1000000)
    (h : ∀ g n cap w', SRow w' (.slice (some ⟨g, 0, none⟩) n cap) (ls ++ [c]) → w.grownBy w' v.ownBlock → (v.ownBlock = some g ∨ g = w.heap.size) → wpList Tryz.prog ops Q rest (a.put o.dst (.slice (some ⟨g, 0, none⟩) n cap)) w') :
    wpList Tryz.prog ops Q (o :: rest) a w := by
  obtain ⟨i0, hi, hz0, hz1, hz2⟩ := info_parts Tryz.infoStr
  refine wpList_append_lies _ hgd s x 36 ho 0 9 i0 (.string ⟨#[]⟩) 1 16 Tryz.underlying36 hi hz0 hz1 hz2 rfl (by decide) v ls.length (ls.map Value.string) hs hrow ⟨B, 0, none⟩ 1 1 [.string c] hx rfl
    (World.news_of_block hB) (by simp [Value.oneCell']) (by decide) (by unfold maxLen; omega) (by omega) (Nat.zero_le _) w.heap.size rfl ?_
  intro g cap w' h2 h3 h4 _
  refine h g _ cap w' ?_ h3 h4
  unfold SRow
  simpa using h2

/-- The blocks of the reader. -/
def Sr (L T k : Nat) : Prop := L ≤ k ∧ k < T
/-- In the midst of Decode. -/
structure DecAt (wa : World) (L T b : Nat) (wr : World) (ep : Int) (se : ByteArray) (ls : List ByteArray) (sc : ByteArray) (s : RdS) (tv : Value) : Prop where
  heap : wr.heap[T]? = some (.cells #[.int .i64 ep, .string se, tv, .string sc] 38 (0, 0))
  row : SRow wr tv ls
  lie : ∀ g, tv.ownBlock = some g → T < g
  rd : Rd (Sr L T) b wr s
  below : Below L wa wr
  low : L ≤ T
  wlow : L ≤ wa.heap.size

theorem SRow.grown {w w' : World} {v : Value} {ls : List ByteArray} {row : Option Nat} (h : SRow w v ls) (hb : w.grownBy w' row) (hr : ∀ k, row = some k → v.ownBlock ≠ some k) : SRow w' v ls :=
  row_kept h (fun g hg => by
    obtain ⟨cur, hc⟩ := row_lt h hg
    exact hb.block g (lt_of_heap hc) (fun e => hr g e.symm hg))

/-- After a call of the reader. -/
theorem DecAt.read {wa : World} {L T b : Nat} {wr w1 : World} {ep : Int} {se : ByteArray} {ls : List ByteArray} {sc : ByteArray} {s s' : RdS} {tv : Value} (h : DecAt wa L T b wr ep se ls sc s tv) (hr : Rd (Sr L T) b w1 s') (hg : wr.grownBy w1 (some b)) :
    DecAt wa L T b w1 ep se ls sc s' tv where
  heap := (hg.block T (lt_of_heap h.heap) (fun e => by cases e; exact absurd hr.1.2 (Nat.lt_irrefl _))).trans h.heap
  row := h.row.grown hg (fun k hk e => by cases hk; have := h.lie b e; have := hr.1.2; omega)
  lie := h.lie
  rd := hr
  below := Below.grownRow h.below hg h.wlow (fun k hk => by cases hk; exact hr.1.1)
  low := h.low
  wlow := h.wlow

theorem DecAt.store {wa : World} {L T b : Nat} {wr : World} {ep : Int} {se : ByteArray} {ls : List ByteArray} {sc : ByteArray} {s : RdS} {tv : Value} (h : DecAt wa L T b wr ep se ls sc s tv) (i : Nat) (v : Value) (ep' : Int) (se' sc' : ByteArray)
    (he : (#[.int .i64 ep, .string se, tv, .string sc] : Array Value).setIfInBounds i v = #[.int .i64 ep', .string se', tv, .string sc']) : DecAt wa L T b (wr.setCell ⟨T, i, none⟩ v) ep' se' ls sc' s tv where
  heap := by rw [heap_setCell_same h.heap, he]
  row := h.row.grown (grown_setCell _ _ _ _) (fun k hk e => by cases hk; exact absurd (h.lie T e) (Nat.lt_irrefl _))
  lie := h.lie
  rd := h.rd.grown (grown_setCell _ _ _ _) (fun k hk e => by cases hk; exact absurd e.2 (Nat.lt_irrefl _))
  below := h.below.setCell h.low _
  low := h.low
  wlow := h.wlow

theorem DecAt.append {wa : World} {L T b : Nat} {wr w2 : World} {ep : Int} {se : ByteArray} {ls ls' : List ByteArray} {sc : ByteArray} {s : RdS} {tv : Value} {o : Obj} {g n cap : Nat} (h : DecAt wa L T b wr ep se ls sc s tv)
    (hrow : SRow w2 (.slice (some ⟨g, 0, none⟩) n cap) ls') (hg : (wr.alloc o).grownBy w2 tv.ownBlock) (hat : tv.ownBlock = some g ∨ g = (wr.alloc o).heap.size) :
    DecAt wa L T b (w2.setCell ⟨T, 2, none⟩ (.slice (some ⟨g, 0, none⟩) n cap)) ep se ls' sc s (.slice (some ⟨g, 0, none⟩) n cap) := by
  have hT := lt_of_heap h.heap
  have hgT : T < g := by
    rcases hat with e | e
    · exact h.lie g e
    · rw [e]; simp; omega
  have hg' : wr.grownBy w2 tv.ownBlock := ⟨hg.os, hg.tape, hg.output, Nat.le_trans (by simp) hg.size, fun k hk hne => (hg.block k (by simp; omega) hne).trans (Below.heap_alloc wr _ k hk)⟩
  have h2 : w2.heap[T]? = _ := (hg'.block T hT (fun e => absurd (h.lie T e.symm) (Nat.lt_irrefl _))).trans h.heap
  refine ⟨heap_setCell_same h2 2 _, hrow.grown (grown_setCell _ _ _ _) (fun k hk e => ?_), fun k hk => ?_, (h.rd.grown hg' (fun k hk e => ?_)).grown (grown_setCell _ _ _ _) (fun k hk e => by cases hk; exact absurd e.2 (Nat.lt_irrefl _)), ?_, h.low, h.wlow⟩
  · cases hk
    simp [Value.ownBlock] at e
    omega
  · simp [Value.ownBlock] at hk
    omega
  · have := h.lie k hk
    have := e.2
    omega
  · exact (Below.grownRow h.below hg' h.wlow (fun k hk => by have := h.lie k hk; have := h.low; omega)).setCell h.low _

/-- What Decode leaves. -/
def TermPost (w : World) (t : TermT) (e : Nat) (r : Ending) (w' : World) : Prop :=
  ∃ a n c, r = .returned (.tuple #[.agg #[.int .i64 t.epoch, .string t.session, .slice a n c, .string t.screen], .int .i64 e]) ∧ SRow w' (.slice a n c) t.typed ∧ (∀ g, (Value.slice a n c).ownBlock = some g → w.heap.size ≤ g) ∧ Below w.heap.size w w'

end Go.Proofs.YtfobmfenjdiimaaGreatDoor
