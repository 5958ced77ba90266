/- view: Reads: slices.AppendSeq, Collect, SortedFunc over whatever gives changes. -/
import Derived.Test.YtemmeopaihmlcaaGreatDoorRdsA
namespace Go.Proofs.YtemmeopaihmlcaaGreatDoor
open Go.RowKit Go.ChangeMaps Go.Shelf
attribute [local go_sem] Oper.semAt_some

def rdAssign : Code := (Code.region 2 #[{ dst := some 5, op := Op.alloc 55, type := 0, pos := "iter.go:51", after := #[], guard := none }, { dst := none, op := Op.store 55 (Operand.tmp 5) (Operand.tmp 7), type := 0, pos := "iter.go:51", after := #[{ on := 0, ground := Ground.data }, { on := 0, ground := Ground.phase }], guard := none }] false)
def rdBody : Code := (Code.block 1 (Code.region 3 #[{ dst := some 8, op := Op.load 45 (Operand.tmp 2), type := 45, pos := "iter.go:52", after := #[], guard := none }, { dst := some 9, op := Op.load 55 (Operand.tmp 5), type := 55, pos := "iter.go:52", after := #[], guard := none }, { dst := some 10, op := Op.buildSlice 45 1 #[(0, Operand.tmp 9)], type := 45, pos := "iter.go:52", after := #[{ on := 1, ground := Ground.data }], guard := none }, { dst := some 11, op := Op.call { callee := Callee.builtin Builtin.append, args := #[Operand.tmp 8, Operand.tmp 10], argTypes := #[45, 45] }, type := 45, pos := "iter.go:52", after := #[{ on := 0, ground := Ground.data }, { on := 2, ground := Ground.data }], guard := none }, { dst := none, op := Op.store 45 (Operand.tmp 2) (Operand.tmp 11), type := 0, pos := "iter.go:52", after := #[{ on := 3, ground := Ground.data }, { on := 3, ground := Ground.chain }, { on := 0, ground := Ground.phase }, { on := 1, ground := Ground.phase }, { on := 2, ground := Ground.phase }, { on := 3, ground := Ground.phase }], guard := none }] false))
/-- The loop's record: AppendSeq's temporaries at the entering; the slice boxed in block Bs; sv the iterator's value. -/
def rdRec (fn : FuncId) (sv : Value) (Bs D : Nat) (st : LoopState) (pend : Option Code) : Loop :=
  { state := st, pending := pend, fn, tmps := #[.slice none 0 0, sv, .pointer (some ⟨Bs, 0, none⟩), undef, .slice none 0 0, undef, sv, undef, undef, undef, undef, undef, undef], params := #[7], assign := rdAssign, body := rdBody, defers := D }
/-- Between two rounds: the box holds the slice of what has come. -/
structure RdAt (w0 : World) (fn : FuncId) (sv : Value) (Bs l D : Nat) (cs : List ChangeT) (W : World) : Prop where
  box : ∃ v, W.heap[Bs]? = some (.cells #[v] 45 (0, 0)) ∧ W.ownsRow w0.heap.size 55 7 v cs.length (cs.flatMap changeCells)
  L : W.heap[l]? = some (.loop (rdRec fn sv Bs D .ready none))
  K : W.heap[D]? = some (.deferred (some []))
  below : Below w0.heap.size w0 W
theorem rdRow_abides {W W' : World} {row : Option Nat} {base : Nat} {e : TypeId} {size : Nat} {v : Value} {k : Nat} {xs : List Value} (h : W.ownsRow base e size v k xs) (hg : W.grownBy W' row)
    (hrow : ∀ r, row = some r → ∃ o : Obj, W.heap[r]? = some o ∧ o.isWalk = true) : W'.ownsRow base e size v k xs := by
  refine h.kept hg ?_
  rcases h.2 with ⟨rfl, _⟩ | ⟨g, cap, cur, rfl, _, hgb, _⟩
  · exact .inl rfl
  · refine .inr fun e' => ?_
    obtain ⟨o, ho, hw⟩ := hrow g (by simpa [Value.ownBlock] using e'.symm)
    rw [hgb] at ho; cases ho; cases hw
theorem rd_abides (w0 : World) (fn : FuncId) (sv : Value) (Bs l D B : Nat) (hB : w0.heap.size ≤ B) : AbidesFrom B (RdAt w0 fn sv Bs l D) := fun s W W' row h hg hrow => by
  have hrow' : ∀ r, row = some r → ∃ o : Obj, W.heap[r]? = some o ∧ o.isWalk = true := fun r e => (hrow r e).2
  obtain ⟨v, hv, hr⟩ := h.box
  exact ⟨⟨v, (grownBy_keeps hg hrow' hv rfl).trans hv, rdRow_abides hr hg hrow'⟩, (grownBy_keeps hg hrow' h.L rfl).trans h.L, (grownBy_keeps hg hrow' h.K rfl).trans h.K,
    h.below.grown hg h.below.size (fun k e => Nat.le_trans hB (hrow k e).1)⟩
theorem rd_putObj (W : World) (l : Nat) (o : Obj) : W.grownBy (W.putObj l o) (some l) :=
  ⟨rfl, rfl, rfl, by simp, fun k _ hk => World.putObj_heap_other (fun e => hk (by rw [e]))⟩
theorem rdRow_ne {W : World} {base : Nat} {e : TypeId} {size : Nat} {v : Value} {k : Nat} {xs : List Value} (h : W.ownsRow base e size v k xs) {j : Nat} {o : Obj} (hj : W.heap[j]? = some o) (hno : ∀ cur, o ≠ .cells cur e (0, 0)) :
    v.ownBlock = none ∨ v.ownBlock ≠ some j := by
  rcases h.2 with ⟨rfl, _⟩ | ⟨g, cap, cur, rfl, _, hgb, _⟩
  · exact .inl rfl
  · refine .inr fun e' => ?_
    have : g = j := by simpa [Value.ownBlock] using e'
    subst this; rw [hgb] at hj; cases hj; exact hno cur rfl
theorem rd_cell {W : World} {B : Nat} {v : Value} {t : TypeId} (h : W.heap[B]? = some (.cells #[v] t (0, 0))) : W.cell? ⟨B, 0, none⟩ = some v ∧ W.frozen? ⟨B, 0, none⟩ = false := by
  constructor <;> simp [World.cell?, World.frozen?, h]
theorem rdRow_not_walk {W : World} {base : Nat} {e : TypeId} {size : Nat} {v : Value} {k : Nat} {xs : List Value} (h : W.ownsRow base e size v k xs) : ∀ (j : Nat) (o : Obj), v.ownBlock = some j → W.heap[j]? = some o → o.isWalk = false := by
  intro j o hj ho
  rcases h.2 with ⟨rfl, _⟩ | ⟨g, cap, cur, rfl, _, hgb, _⟩
  · simp [Value.ownBlock] at hj
  · have : g = j := by simpa [Value.ownBlock] using hj
    subst this; rw [hgb] at ho; cases ho; rfl
theorem rd_neT : 45 ≠ 55 := by decide

set_option maxRecDepth 100000 in
set_option maxHeartbeats 4000000 in
theorem rdYield (F : Fence) (m : Nat) (w0 : World) (fn : FuncId) (hfn : F.fn fn) (sv : Value) (Bs l D : Nat) (hBl : Bs ≠ l) (hDl : D ≠ l) (hDB : D ≠ Bs) (h0B : w0.heap.size ≤ Bs) (h0l : w0.heap.size ≤ l)
    (N : Nat) (hN : N ≤ 1000001) (cs : List ChangeT) (x : ChangeT) (W : World) (h : RdAt w0 fn sv Bs l D cs W) (hlen : cs.length < N) :
    YieldAt F m Tryz.prog l #[changeV x] W fun e W' => e = .returned (.bool true) ∧ RdAt w0 fn sv Bs l D (cs ++ [x]) W' ∧ KeepsWalks W W' := by
  obtain ⟨i0, hi, hz0, hz1, hz2⟩ := info_parts Tryz.infoChange
  obtain ⟨v, hv, hrow⟩ := h.box
  refine ⟨fn, #[.slice none 0 0, sv, .pointer (some ⟨Bs, 0, none⟩), undef, .slice none 0 0, undef, sv, changeV x, undef, undef, undef, undef, undef], rdAssign, rdBody, by simpa [rdRec] using run_yield (P := Tryz.prog) (args := #[changeV x]) h.L rfl, roundIn_of_wpIn hfn ?_⟩
  obtain ⟨⟨x1, x2, x3, x4, x5⟩, xv, xb⟩ := x
  obtain ⟨W1, hW1⟩ : ∃ W1, W.alloc (.cells #[.int .i64 x1, .string x2, .int .i64 x3, .int .i64 x4, .string x5, .string xv, .bool xb] 55) = W1 := ⟨_, rfl⟩
  have hv1 : W1.heap[Bs]? = some (.cells #[v] 45 (0, 0)) := by rw [← hW1]; exact (Below.heap_alloc _ _ _ (lt_of_heap hv)).trans hv
  have hL1 : W1.heap[l]? = some (.loop (rdRec fn sv Bs D .ready none)) := by rw [← hW1]; exact (Below.heap_alloc _ _ _ (lt_of_heap h.L)).trans h.L
  have hK1 : W1.heap[D]? = some (.deferred (some [])) := by rw [← hW1]; exact (Below.heap_alloc _ _ _ (lt_of_heap h.K)).trans h.K
  have hx1 : W1.heap[W.heap.size]? = some (.cells #[.int .i64 x1, .string x2, .int .i64 x3, .int .i64 x4, .string x5, .string xv, .bool xb] 55 (0, 0)) := by rw [← hW1]; exact heap_alloc_new W _
  have hrow1 : W1.ownsRow w0.heap.size 55 7 v cs.length (cs.flatMap changeCells) := by rw [← hW1]; exact World.ownsRow.alloc hrow _
  have hb1 : Below w0.heap.size w0 W1 := by rw [← hW1]; exact h.below.alloc h.below.size _
  have hk1 : KeepsWalks W W1 := by rw [← hW1]; exact KeepsWalks.alloc _ _
  have hl : l < W1.heap.size := (Array.getElem?_eq_some_iff.1 hL1).1
  have hbr := run_beginRound (P := Tryz.prog) hL1 rfl
  obtain ⟨W2, hW2⟩ : ∃ W2, W1.putObj l (.loop { rdRec fn sv Bs D .ready none with state := .busy }) = W2 := ⟨_, rfl⟩
  rw [hW2] at hbr
  have hne : W.heap.size ≠ l := fun e => by have := lt_of_heap h.L; omega
  have hg2 : W1.grownBy W2 (some l) := by rw [← hW2]; exact rd_putObj _ _ _
  have hk2 : KeepsWalks W W2 := hk1.trans (by rw [← hW2]; exact KeepsWalks.putObj _ hL1 rfl)
  have hv2 : W2.heap[Bs]? = some (.cells #[v] 45 (0, 0)) := by rw [← hW2]; exact (World.putObj_heap_other hBl).trans hv1
  have hK2 : W2.heap[D]? = some (.deferred (some [])) := by rw [← hW2]; exact (World.putObj_heap_other hDl).trans hK1
  have hx2 : W2.heap[W.heap.size]? = some (.cells #[.int .i64 x1, .string x2, .int .i64 x3, .int .i64 x4, .string x5, .string xv, .bool xb] 55 (0, 0)) := by rw [← hW2]; exact (World.putObj_heap_other hne).trans hx1
  have hL2 : W2.heap[l]? = some (.loop { rdRec fn sv Bs D .ready none with state := .busy }) := by rw [← hW2]; exact World.putObj_heap_same hl
  have hrow2 : W2.ownsRow w0.heap.size 55 7 v cs.length (cs.flatMap changeCells) := hrow1.kept hg2 (rdRow_ne hrow1 hL1 (fun cur e => by cases e))
  have hb2 : Below w0.heap.size w0 W2 := hb1.grown hg2 hb1.size (fun k e => by cases e; exact h0l)
  obtain ⟨hc2, hf2⟩ := rd_cell hv2
  have hBlt : Bs < W2.heap.size := (Array.getElem?_eq_some_iff.1 hv2).1
  have hl2 : l < W2.heap.size := (Array.getElem?_eq_some_iff.1 hL2).1
  have hDlt : D < W2.heap.size := (Array.getElem?_eq_some_iff.1 hK2).1
  have ne_of : Hid (∀ {j : Nat} {o : Obj}, W2.heap[j]? = some o → (∀ cur, o ≠ .cells cur 55 (0, 0)) → some j ≠ v.ownBlock) := fun hj hno => by
    rcases rdRow_ne hrow2 hj hno with e | e
    · rw [e]; simp
    · exact fun e' => e e'.symm
  have Hrow2 : Hid (∀ o, (W2.alloc o).ownsRow w0.heap.size 55 7 v cs.length (cs.flatMap changeCells)) := fun o => World.ownsRow.alloc hrow2 o
  have Hr2 := Lib.hid hrow2
  have HBX : Hid (∀ o, (W2.alloc o).heap[W2.heap.size]? = some o) := fun o => heap_alloc_new W2 o
  have Hlt : Hid (cs.length < N) := hlen
  have Hcap : Hid (N ≤ 1000001) := hN
  have Hbz : Hid (w0.heap.size ≤ W2.heap.size) := hb2.size
  have Hv2 := Lib.hid hv2
  have HL2 := Lib.hid hL2
  have HK2 := Lib.hid hK2
  have Hb2 := Lib.hid hb2
  have HK := Lib.hid hk2
  have c0 := cell_of_heap hx2 0
  have c1 := cell_of_heap hx2 1
  have c2 := cell_of_heap hx2 2
  have c3 := cell_of_heap hx2 3
  have c4 := cell_of_heap hx2 4
  have c5 := cell_of_heap hx2 5
  have c6 := cell_of_heap hx2 6
  dsimp at c0 c1 c2 c3 c4 c5 c6
  have Hbr := Lib.hid hbr
  clear hW2 hv2 hL2 hK2 hb2 hk2 hk1 hb1 hrow1 hrow2 hx1 hx2 hK1 hL1 hv1 hg2 hbr h hrow hv hlen hN
  unfold rdAssign changeV
  dsimp only
  gi_wp2
  refine ⟨W2, Hbr.out, ?_⟩
  clear hW1
  unfold rdBody
  gi_wp2_with (first
    | (gi_at_builtin; refine wpListIn_append_own _ rfl _ _ 45 rfl w0.heap.size 55 i0 changeZ 7 80 Tryz.underlying45 hi hz0 hz1 hz2 rfl (by decide) _ _ _ rfl (Hrow2.out _) ⟨W2.heap.size, 0, none⟩ 1 1 (changeCells ⟨⟨x1, x2, x3, x4, x5⟩, xv, xb⟩) rfl rfl (World.news_of_block (HBX.out _)) (by simp [changeCells, Value.oneCell']) (by have := Hlt.out; have := Hcap.out; unfold maxLen; omega) (by have := Hlt.out; have := Hcap.out; omega) (by have := Hbz.out; simp; omega) ?_; intro v' w3 hown' hg3 hnil3
       have hv3 : w3.heap[Bs]? = some (.cells #[v] 45 (0, 0)) := (hg3.block Bs (by simp; omega) (ne_of.out Hv2.out (fun cur e => by cases e))).trans ((Below.heap_alloc _ _ Bs hBlt).trans Hv2.out)
       obtain ⟨hc3, hf3⟩ := rd_cell hv3
       obtain ⟨g', cap', rfl⟩ : ∃ g' cap', v' = .slice (some ⟨g', 0, none⟩) (cs.length + 1) cap' := by
         rcases hown'.2 with ⟨_, h0⟩ | ⟨g', cap', cur', h1, _⟩
         · exact absurd h0 (by omega)
         · exact ⟨g', cap', h1⟩
       have Hv3 := Lib.hid hv3
       have Hown := Lib.hid hown'
       have Hg3 := Lib.hid hg3
       clear hown' hg3 hnil3 hv3 c0 c1 c2 c3 c4 c5 c6 hc2 hf2)
    | gi_in)
  have hg3 := Hg3.out
  have hL3 : w3.heap[l]? = some (.loop { rdRec fn sv Bs D .ready none with state := .busy }) := (hg3.block l (by simp; omega) (ne_of.out HL2.out (fun cur e => by cases e))).trans ((Below.heap_alloc _ _ l hl2).trans HL2.out)
  have hK3 : w3.heap[D]? = some (.deferred (some [])) := (hg3.block D (by simp; omega) (ne_of.out HK2.out (fun cur e => by cases e))).trans ((Below.heap_alloc _ _ D hDlt).trans HK2.out)
  obtain ⟨w4, hw4⟩ : ∃ w4, w3.setCell ⟨Bs, 0, none⟩ (.slice (some ⟨g', 0, none⟩) (cs.length + 1) cap') = w4 := ⟨_, rfl⟩
  rw [hw4]
  have hg4 : w3.grownBy w4 (some Bs) := by rw [← hw4]; exact grown_setCell _ _ _ _
  have hv4 : w4.heap[Bs]? = some (.cells #[.slice (some ⟨g', 0, none⟩) (cs.length + 1) cap'] 45 (0, 0)) := by rw [← hw4]; exact heap_setCell_same Hv3.out 0 _
  have hL4 : w4.heap[l]? = some (.loop { rdRec fn sv Bs D .ready none with state := .busy }) := (hg4.block l (Array.getElem?_eq_some_iff.1 hL3).1 (fun e => hBl (by cases e; rfl))).trans hL3
  have hK4 : w4.heap[D]? = some (.deferred (some [])) := (hg4.block D (Array.getElem?_eq_some_iff.1 hK3).1 (fun e => hDB (by cases e; rfl))).trans hK3
  have hrow4 := Hown.out.kept hg4 (rdRow_ne Hown.out Hv3.out (fun cur e => by cases e))
  have hl4 : l < w4.heap.size := (Array.getElem?_eq_some_iff.1 hL4).1
  have hb3 : Below w0.heap.size w0 w3 := (Hb2.out.alloc Hb2.out.size _).grown hg3 (by have := Hb2.out.size; simp; omega) (fun k e => (Hr2.out.lt k e).1)
  have hb4 : Below w0.heap.size w0 w4 := hb3.grown hg4 hb3.size (fun k e => by cases e; exact h0B)
  have hk4 : KeepsWalks W w4 := ((HK.out.trans (KeepsWalks.alloc _ _)).trans (KeepsWalks.of_grownBy hg3 (rdRow_not_walk (Hrow2.out _)))).trans (by rw [← hw4]; exact KeepsWalks.setCell _ _ _)
  clear hw4
  refine ⟨_, _, run_endRound none hL4, rfl, ⟨⟨_, (World.putObj_heap_other hBl).trans hv4, ?_⟩, World.putObj_heap_same hl4, (World.putObj_heap_other hDl).trans hK4, hb4.grown (rd_putObj _ _ _) hb4.size (fun k e => by cases e; exact h0l)⟩, hk4.trans (KeepsWalks.putObj _ hL4 rfl)⟩
  have := hrow4.kept (rd_putObj w4 l (.loop { { rdRec fn sv Bs D .ready none with state := .busy } with state := if (none : Option Code).isNone then .ready else .done, pending := none })) (rdRow_ne hrow4 hL4 (fun cur e => by cases e))
  simpa using this
end Go.Proofs.YtemmeopaihmlcaaGreatDoor
