/- view: Reads: the iterator of maps.Values over the map of what was read. view: Reads: slices.AppendSeq, Collect, SortedFunc over whatever gives changes. view: Reads. view: Reads: what it hands back. view: Reads hands back a row of its own. -/
import Derived.Test.YtfchfjipkggnkaaGreatDoorWriB
import Derived.Test.YtfchfjipkggnkaaGreatDoorQmW
import Derived.Test.YtfchfjipkggnkaaGreatDoorQmC
import Derived.RangeFuncGives
import Derived.Maps.AppendAt
import Derived.Shelf.AbstractIn
import Derived.Shelf.Abstract
import Derived.Sort.MapsRangeIn
import Derived.Sort.LoopGhostIn
import Derived.RangeFuncCalls
import Derived.RangeFuncLeaves
import Derived.WalkKit
import Derived.OwnWalkIn
import Derived.TacticsInMore
import Derived.RegionIn
import Derived.LoopNIn
import Derived.LoopIn
namespace Go.Proofs.YtfchfjipkggnkaaGreatDoor
open Go.RowKit Go.ChangeMaps Go.Shelf

section
variable {F : Fence} {n : Nat} {P : Program} (w : World) {ops : Array Oper} {rest : List Oper} {o : Oper} {a : Act} {Q : Exit → Act → World → Prop}
theorem wpListIn_range_map (hg : o.guard = none) (m : Operand) (t : TypeId) (hop : o.op = Op.range t m) (k e : TypeId) (ht : P.underlying t = some (.map k e)) (b : Nat) (es : Array MapEntry) (clock : Nat)
    (hm : a.eval m = .map (some b)) (hb : w.heap[b]? = some (.map es clock))
    (hK : wpListIn F n P ops Q rest (a.put o.dst (.pointer (some ⟨w.heap.size, 0, none⟩))) (w.alloc (.mapIter (some b) clock #[] clock))) :
    wpListIn F n P ops Q (o :: rest) a w := by
  refine wpListIn_plain hg fun K' hK' => ?_
  unfold Oper.wpIn
  refine ⟨by simp [Oper.about, hop], ?_⟩
  rw [Oper.semAt_plain F _ _ (by rw [hop]; intro c hc'; cases hc')]
  simp [execOp, hop, hm, run_range_map w t k e b es clock ht hb, Result.andThen]
  exact hK' _ _ hK
theorem wpListIn_next_map (hg : o.guard = none) (it : Operand) (hop : o.op = Op.next it false) (r bm since c0 : Nat) (seen : Array Nat) (es : Array MapEntry) (clock : Nat)
    (hit : a.eval it = .pointer (some ⟨r, 0, none⟩)) (hr : w.heap[r]? = some (.mapIter (some bm) since seen c0)) (hb : w.heap[bm]? = some (.map es clock)) (hne : bm ≠ r) (hold : ∀ x ∈ es.toList, x.born < since) (hsc : since ≤ c0) (hnd : (es.toList.map (·.born)).Nodup)
    (hDone : Hid ((leftOf es seen).size = 0) → wpListIn F n P ops Q rest (a.put o.dst (.tuple #[.bool false])) w)
    (hMore : ∀ (e : MapEntry) (w' : World), Hid (e ∈ (leftOf es seen).toList ∧ (∃ w1, (w1 = w ∨ w1 = w.drew) ∧ w' = setBlock w1 r (.mapIter (some bm) since (seen.push e.born) clock)) ∧ (Instr.entry (.pointer (some ⟨r, 0, none⟩))).run P w' = .ok (.tuple #[e.key, e.val]) w') →
      wpListIn F n P ops Q rest (a.put o.dst (.tuple #[.bool true, e.key, e.val])) w') :
    wpListIn F n P ops Q (o :: rest) a w := by
  refine wpListIn_plain hg fun K' hK' => ?_
  unfold Oper.wpIn
  refine ⟨by simp [Oper.about, hop], ?_⟩
  rw [Oper.semAt_plain F _ _ (by rw [hop]; intro c hc'; cases hc')]
  rcases run_next_at (P := P) w o.type r bm since c0 seen es clock hr hb hold hsc with ⟨h0, hrun⟩ | ⟨e, he, w1, hw1, hrun⟩
  · simp [execOp, hop, hit, hrun, Result.andThen]
    exact hK' _ _ (hDone h0)
  · have hr1 : w1.heap[r]? = some (.mapIter (some bm) since seen c0) := by rcases hw1 with rfl | rfl <;> exact hr
    have hb1 : w1.heap[bm]? = some (.map es clock) := by rcases hw1 with rfl | rfl <;> exact hb
    have hr2 : (setBlock w1 r (.mapIter (some bm) since (seen.push e.born) clock)).heap[r]? = some (.mapIter (some bm) since (seen.push e.born) clock) := by
      simp [setBlock, lt_of_heap hr1]
    have hb2 : (setBlock w1 r (.mapIter (some bm) since (seen.push e.born) clock)).heap[bm]? = some (.map es clock) := by
      simp only [setBlock]
      rw [Array.getElem?_setIfInBounds_ne (Ne.symm hne)]
      exact hb1
    have hin : e ∈ es.toList := by
      unfold leftOf at he
      simp at he ⊢
      exact he.1
    have hen := run_entry_at (P := P) _ r bm since seen es clock e hr2 hb2 hin hnd
    simp [execOp, hop, hit, hrun, Result.andThen]
    exact hK' _ _ (hMore e _ ⟨he, ⟨w1, hw1, rfl⟩, hen⟩)
end
theorem setBlock_grown {w w1 : World} {r : Nat} {o : Obj} (hw : w1 = w ∨ w1 = w.drew) : w.grownBy (setBlock w1 r o) (some r) := by
  rcases hw with rfl | rfl
  all_goals exact ⟨rfl, rfl, rfl, by simp [setBlock], fun k _ hk => by
    simp only [setBlock]
    rw [Array.getElem?_setIfInBounds_ne (fun e => hk (by rw [e]))]
    try rfl⟩

/-- What an entry of the map of reads says. -/
def rdOf (e : MapEntry) : ChangeT := match e.val with
  | .agg #[.int _ a, .string b, .int _ c, .int _ d, .string f, .string v, .bool x] => ⟨⟨a, b, c, d, f⟩, v, x⟩
  | _ => noChg
theorem rdOf_at {e : MapEntry} {c : ChangeT} (h : e.val = changeV c) : rdOf e = c := by
  unfold rdOf
  rw [h]
  rfl
theorem rd_ent {es : Array MapEntry} {l0 : List (NameT × ChangeT)} (hl : es.toList.map (fun e => (e.key, e.val)) = l0.map (fun p => (nameV p.1, changeV p.2))) {e : MapEntry} (he : e ∈ es.toList) : ∃ c, e.val = changeV c ∧ rdOf e = c := by
  have : (e.key, e.val) ∈ l0.map (fun p => (nameV p.1, changeV p.2)) := by rw [← hl]; exact List.mem_map.2 ⟨e, he, rfl⟩
  obtain ⟨p, hp, h1⟩ := List.mem_map.1 this
  have hv : e.val = changeV p.2 := (Prod.mk.inj h1).2.symm
  exact ⟨p.2, hv, rdOf_at hv⟩
theorem rd_map {es : Array MapEntry} {l0 : List (NameT × ChangeT)} (hl : es.toList.map (fun e => (e.key, e.val)) = l0.map (fun p => (nameV p.1, changeV p.2))) : es.toList.map rdOf = l0.map Prod.snd := by
  generalize es.toList = l at hl
  induction l generalizing l0 with
  | nil => cases l0 with
    | nil => rfl
    | cons p l0 => simp at hl
  | cons e l ih => cases l0 with
    | nil => simp at hl
    | cons p l0 =>
      simp only [List.map_cons, List.cons.injEq, Prod.mk.injEq] at hl ⊢
      exact ⟨rdOf_at hl.1.2, ih hl.2⟩
/-- Between two rounds of the iterator. -/
structure RdI (r bm : Nat) (es : Array MapEntry) (clock : Nat) (J : List ChangeT → World → Prop) (gk : Nat) (wr : World) : Prop where
  ex : ∃ (seen : Array Nat) (c0 : Nat) (ps : List MapEntry), wr.heap[r]? = some (.mapIter (some bm) clock seen c0) ∧ clock ≤ c0 ∧ seen.toList = ps.map (·.born) ∧ (∀ e ∈ ps, e ∈ es.toList) ∧ (ps.map (·.born)).Nodup ∧ (leftOf es seen).size ≤ gk ∧ J (ps.map rdOf) wr
  map : wr.heap[bm]? = some (.map es clock)
theorem rd_len {es : Array MapEntry} {seen : Array Nat} {ps : List MapEntry} {e : MapEntry} (hseen : seen.toList = ps.map (·.born)) (hps : ∀ e ∈ ps, e ∈ es.toList) (hnd : (ps.map (·.born)).Nodup) (he : e ∈ (leftOf es seen).toList) :
    (∀ x ∈ ps ++ [e], x ∈ es.toList) ∧ ((ps ++ [e]).map (·.born)).Nodup ∧ ps.length < es.size := by
  obtain ⟨hin, hns⟩ := left_in he
  have hnd2 : ((ps ++ [e]).map (·.born)).Nodup := by
    rw [List.map_append]
    refine List.nodup_append.2 ⟨hnd, by simp, fun a ha b hb => ?_⟩
    simp at hb
    subst hb
    rw [hseen] at hns
    exact fun e => hns (e ▸ ha)
  have hsub : ∀ x ∈ ps ++ [e], x ∈ es.toList := fun x hx => (List.mem_append.1 hx).elim (hps x) (fun h => by simp at h; rw [h]; exact hin)
  have := sub_len (nodup_of_map hnd2) hsub
  simp at this
  exact ⟨hsub, hnd2, by omega⟩

set_option maxRecDepth 100000 in
set_option maxHeartbeats 2000000 in
theorem rdValues_in (F : Fence) (n : Nat) (hf : F.fn 67) (hro : F.round = none) (hn : 1 ≤ n) (l Bm bm : Nat) (es : Array MapEntry) (clock : Nat) (l0 : List (NameT × ChangeT)) (J : List ChangeT → World → Prop)
    (hY : ∀ pre x W, J pre W → pre.length < es.size → YieldAt F (n - 1) Tryz.prog l #[changeV x] W fun e W' => e = .returned (.bool true) ∧ J (pre ++ [x]) W' ∧ KeepsWalks W W')
    (W : World) (hJ : AbidesFrom W.heap.size J) (hm : W.cell? ⟨Bm, 0, none⟩ = some (.map (some bm))) (hb : W.heap[bm]? = some (.map es clock)) (hl : es.toList.map (fun e => (e.key, e.val)) = l0.map (fun p => (nameV p.1, changeV p.2))) (hst : Stamps es clock) (h0 : J [] W) :
    CallsIn F n Tryz.prog 67 #[.func (.yield l) #[] #[], .pointer (some ⟨Bm, 0, none⟩)] W fun e W' => (∃ v, e = .returned v) ∧ ∃ cs, cs.Perm (l0.map Prod.snd) ∧ J cs W' := by
  have HY := Lib.hid hY; clear hY
  have HJ := Lib.hid hJ; clear hJ
  have Hl := Lib.hid hl; clear hl
  have Hst := Lib.hid hst; clear hst
  have Hb := Lib.hid hb; clear hb
  have Hs0 : Hid (RdI W.heap.size bm es clock J es.size (W.alloc (.mapIter (some bm) clock #[] clock))) :=
    ⟨⟨#[], clock, [], World.alloc_heap_new W _, Nat.le_refl _, rfl, (fun e he => by simp at he), by simp, Array.size_filter_le, HJ.out [] W _ none h0 (World.grownBy_alloc _ _ _) (fun r e => by cases e)⟩, (Below.heap_alloc _ _ _ (lt_of_heap Hb.out)).trans Hb.out⟩
  have Hlt : Hid (bm < W.heap.size) := lt_of_heap Hb.out
  clear h0
  refine callsIn_of_wp Tryz.func67 rfl hf ?_ hro
  simp only [Tryz.ntmps67, List.size_toArray, List.length_cons, List.length_nil, Nat.reduceAdd, Nat.reduceSub, Array.replicate_succ, Array.replicate_zero, List.push_toArray, List.append_toArray, List.nil_append, List.cons_append]
  gi_wp2_with (first
    | (gi_at_range; refine wpListIn_range_map _ rfl _ 75 rfl 56 61 Tryz.underlying75 bm es clock rfl Hb.out ?_)
    | gi_in)
  go_frame
  gi_loopg [4] es.size (fun gk _ wr => RdI W.heap.size bm es clock J gk wr)
  case atStart => exact Hs0.out
  case round =>
    clear Hs0 hm
    have HI := Lib.hid hrel; clear hrel
    obtain ⟨seen, c0, ps, hit, hsc, hseen, hps, hnd, hgk, hjs⟩ := HI.out.ex
    have Hm1 := Lib.hid HI.out.map
    have Hit := Lib.hid hit; clear hit
    have Hps := Lib.hid hps; clear hps
    have Hnd := Lib.hid hnd; clear hnd
    have Hseen := Lib.hid hseen; clear hseen
    have Hgk := Lib.hid hgk; clear hgk
    have Hjs := Lib.hid hjs; clear hjs
    have Hne : Hid (bm ≠ W.heap.size) := fun e => by have := Hlt.out; omega
    gi_wp2_with (first
      | (gi_at_next; refine wpListIn_next_map _ rfl _ rfl W.heap.size bm clock c0 seen es clock rfl Hit.out Hm1.out Hne.out Hst.out.2 hsc Hst.out.1 ?_ ?_)
      | gi_in)
    · intro H0
      have hperm := left_done Hst.out (by rw [H0.out]; rfl) Hseen.out Hps.out Hnd.out
      have hpm : Hid ((ps.map rdOf).Perm (l0.map Prod.snd)) := by
        show List.Perm _ _
        rw [← rd_map Hl.out]
        exact hperm.map _
      gi_wp2
      go_end0
      exact ⟨⟨_, rfl⟩, _, hpm.out, Hjs.out⟩
    · intro e w2 HM
      obtain ⟨he, hw, hen⟩ := HM.out
      have He : Hid (e ∈ (leftOf es seen).toList) := by
        show e ∈ _
        simpa using he
      clear he
      have Hw : Hid (Exists fun w1 => (w1 = wr ∨ w1 = wr.drew) ∧ w2 = setBlock w1 W.heap.size (.mapIter (some bm) clock (seen.push e.born) clock)) := by
        rcases hw with h | h
        · exact ⟨_, .inl rfl, h⟩
        · exact ⟨_, .inr rfl, h⟩
      clear hw
      obtain ⟨hin, hns⟩ := left_in He.out
      obtain ⟨c, hcv, hco⟩ := rd_ent Hl.out hin
      have Hrl := Lib.hid (rd_len Hseen.out Hps.out Hnd.out He.out)
      have Hco := Lib.hid hco
      clear hin hns hco HM
      rw [hcv] at hen ⊢
      clear hcv
      obtain ⟨⟨c1, c2, c3, c4, c5⟩, cv, cb⟩ := c
      unfold changeV at hen ⊢
      dsimp only at hen ⊢
      have HG2 : Hid (wr.grownBy w2 (some W.heap.size)) := by
        obtain ⟨w1, hw1, hw2⟩ := Hw.out
        rw [hw2]
        exact setBlock_grown hw1
      have HJ2 : Hid (J (ps.map rdOf) w2) := HJ.out _ wr w2 (some W.heap.size) Hjs.out HG2.out (fun r e => by cases e; exact ⟨Nat.le_refl _, _, Hit.out, rfl⟩)
      have HJ3 : Hid (∀ o, J (ps.map rdOf) (w2.alloc o)) := fun o => HJ.out _ w2 _ none HJ2.out (World.grownBy_alloc _ _ _) (fun r e => by cases e)
      have HM2 : Hid (w2.heap[bm]? = some (.map es clock)) := (HG2.out.block bm (lt_of_heap Hm1.out) (fun e => by cases e; exact Hne.out rfl)).trans Hm1.out
      have HI2 : Hid (w2.heap[W.heap.size]? = some (.mapIter (some bm) clock (seen.push e.born) clock)) := by
        obtain ⟨w1, hw1, hw2⟩ := Hw.out
        show _ = _
        rw [hw2]
        have := lt_of_heap Hit.out
        rcases hw1 with rfl | rfl <;> simp [setBlock, this]
      obtain ⟨fn, tmps, assign, body, hy, hR⟩ := HY.out (ps.map rdOf) ⟨⟨c1, c2, c3, c4, c5⟩, cv, cb⟩ _ (HJ3.out (.cells #[.int .i64 c1, .string c2, .int .i64 c3, .int .i64 c4, .string c5, .string cv, .bool cb] 61)) (by rw [List.length_map]; exact Hrl.out.2.2)
      unfold changeV at hy
      dsimp only at hy
      have HR := Lib.hid hR; clear hR
      clear HJ2 HJ3 HG2 Hw
      gi_wp2
      refine HR.out.mono ?_
      rintro e' W4 ⟨rfl, hJ4, hk4⟩
      have HJ4 := Lib.hid hJ4; clear hJ4
      have HK4 : Hid (KeepsWalks w2 W4) := (KeepsWalks.alloc _ _).trans hk4
      clear hk4 hy
      gi_wp2
      gi_roundg (gk - 1)
      case measure => have := left_step He.out; have := Hgk.out; omega
      case rel => exact ⟨⟨seen.push e.born, clock, ps ++ [e], HK4.out.same _ _ HI2.out rfl, Nat.le_refl _, by simp [Hseen.out], Hrl.out.1, Hrl.out.2.1, by have := left_step He.out; have := Hgk.out; omega, by rw [List.map_append, List.map_cons, List.map_nil, Hco.out]; exact HJ4.out⟩, HK4.out.same _ _ HM2.out rfl⟩
end Go.Proofs.YtfchfjipkggnkaaGreatDoor

namespace Go.Proofs.YtfchfjipkggnkaaGreatDoor
open Go.RowKit Go.ChangeMaps Go.Shelf
attribute [local go_sem] Oper.semAt_some

def rdAssign : Code := (Code.region 2 #[{ dst := some 5, op := Op.alloc 61, type := 0, pos := "iter.go:51", after := #[], guard := none }, { dst := none, op := Op.store 61 (Operand.tmp 5) (Operand.tmp 7), type := 0, pos := "iter.go:51", after := #[{ on := 0, ground := Ground.data }, { on := 0, ground := Ground.phase }], guard := none }] false)
def rdBody : Code := (Code.block 1 (Code.region 3 #[{ dst := some 8, op := Op.load 58 (Operand.tmp 2), type := 58, pos := "iter.go:52", after := #[], guard := none }, { dst := some 9, op := Op.load 61 (Operand.tmp 5), type := 61, pos := "iter.go:52", after := #[], guard := none }, { dst := some 10, op := Op.buildSlice 58 1 #[(0, Operand.tmp 9)], type := 58, pos := "iter.go:52", after := #[{ on := 1, ground := Ground.data }], guard := none }, { dst := some 11, op := Op.call { callee := Callee.builtin Builtin.append, args := #[Operand.tmp 8, Operand.tmp 10], argTypes := #[58, 58] }, type := 58, pos := "iter.go:52", after := #[{ on := 0, ground := Ground.data }, { on := 2, ground := Ground.data }], guard := none }, { dst := none, op := Op.store 58 (Operand.tmp 2) (Operand.tmp 11), type := 0, pos := "iter.go:52", after := #[{ on := 3, ground := Ground.data }, { on := 3, ground := Ground.chain }, { on := 0, ground := Ground.phase }, { on := 1, ground := Ground.phase }, { on := 2, ground := Ground.phase }, { on := 3, ground := Ground.phase }], guard := none }] false))
/-- The loop's record: AppendSeq's temporaries at the entering; the slice boxed in block Bs; sv the iterator's value. -/
def rdRec (fn : FuncId) (sv : Value) (Bs D : Nat) (st : LoopState) (pend : Option Code) : Loop :=
  { state := st, pending := pend, fn, tmps := #[.slice none 0 0, sv, .pointer (some ⟨Bs, 0, none⟩), undef, .slice none 0 0, undef, sv, undef, undef, undef, undef, undef, undef], params := #[7], assign := rdAssign, body := rdBody, defers := D }
/-- Between two rounds: the box holds the slice of what has come. -/
structure RdAt (w0 : World) (fn : FuncId) (sv : Value) (Bs l D : Nat) (cs : List ChangeT) (W : World) : Prop where
  box : ∃ v, W.heap[Bs]? = some (.cells #[v] 58 (0, 0)) ∧ W.ownsRow w0.heap.size 61 7 v cs.length (cs.flatMap changeCells)
  L : W.heap[l]? = some (.loop (rdRec fn sv Bs D .ready none))
  K : W.heap[D]? = some (.deferred (some []))
  below : Below w0.heap.size w0 W
theorem rdRow_abides {W W' : World} {row : Option Nat} {base : Nat} {e : TypeId} {size : Nat} {v : Value} {k : Nat} {xs : List Value} (h : W.ownsRow base e size v k xs) (hg : W.grownBy W' row)
    (hrow : ∀ r, row = some r → ∃ o : Obj, W.heap[r]? = some o ∧ o.isWalk = true) : W'.ownsRow base e size v k xs := by
  refine h.kept hg ?_
  rcases h.2 with ⟨rfl, _⟩ | ⟨g, cap, cur, rfl, _, hgb, _⟩
  · exact .inl rfl
  · refine .inr fun e' => ?_
    obtain ⟨o, ho, hw⟩ := hrow g (by simpa [Value.ownBlock] using e'.symm)
    rw [hgb] at ho; cases ho; cases hw
theorem rd_abides (w0 : World) (fn : FuncId) (sv : Value) (Bs l D B : Nat) (hB : w0.heap.size ≤ B) : AbidesFrom B (RdAt w0 fn sv Bs l D) := fun s W W' row h hg hrow => by
  have hrow' : ∀ r, row = some r → ∃ o : Obj, W.heap[r]? = some o ∧ o.isWalk = true := fun r e => (hrow r e).2
  obtain ⟨v, hv, hr⟩ := h.box
  exact ⟨⟨v, (grownBy_keeps hg hrow' hv rfl).trans hv, rdRow_abides hr hg hrow'⟩, (grownBy_keeps hg hrow' h.L rfl).trans h.L, (grownBy_keeps hg hrow' h.K rfl).trans h.K,
    h.below.grown hg h.below.size (fun k e => Nat.le_trans hB (hrow k e).1)⟩
theorem rd_putObj (W : World) (l : Nat) (o : Obj) : W.grownBy (W.putObj l o) (some l) :=
  ⟨rfl, rfl, rfl, by simp, fun k _ hk => World.putObj_heap_other (fun e => hk (by rw [e]))⟩
theorem rdRow_ne {W : World} {base : Nat} {e : TypeId} {size : Nat} {v : Value} {k : Nat} {xs : List Value} (h : W.ownsRow base e size v k xs) {j : Nat} {o : Obj} (hj : W.heap[j]? = some o) (hno : ∀ cur, o ≠ .cells cur e (0, 0)) :
    v.ownBlock = none ∨ v.ownBlock ≠ some j := by
  rcases h.2 with ⟨rfl, _⟩ | ⟨g, cap, cur, rfl, _, hgb, _⟩
  · exact .inl rfl
  · refine .inr fun e' => ?_
    have : g = j := by simpa [Value.ownBlock] using e'
    subst this; rw [hgb] at hj; cases hj; exact hno cur rfl
theorem rd_cell {W : World} {B : Nat} {v : Value} {t : TypeId} (h : W.heap[B]? = some (.cells #[v] t (0, 0))) : W.cell? ⟨B, 0, none⟩ = some v ∧ W.frozen? ⟨B, 0, none⟩ = false := by
  constructor <;> simp [World.cell?, World.frozen?, h]
theorem rdRow_not_walk {W : World} {base : Nat} {e : TypeId} {size : Nat} {v : Value} {k : Nat} {xs : List Value} (h : W.ownsRow base e size v k xs) : ∀ (j : Nat) (o : Obj), v.ownBlock = some j → W.heap[j]? = some o → o.isWalk = false := by
  intro j o hj ho
  rcases h.2 with ⟨rfl, _⟩ | ⟨g, cap, cur, rfl, _, hgb, _⟩
  · simp [Value.ownBlock] at hj
  · have : g = j := by simpa [Value.ownBlock] using hj
    subst this; rw [hgb] at ho; cases ho; rfl
theorem rd_neT : 58 ≠ 61 := by decide

set_option maxRecDepth 100000 in
set_option maxHeartbeats 4000000 in
theorem rdYield (F : Fence) (m : Nat) (w0 : World) (fn : FuncId) (hfn : F.fn fn) (sv : Value) (Bs l D : Nat) (hBl : Bs ≠ l) (hDl : D ≠ l) (hDB : D ≠ Bs) (h0B : w0.heap.size ≤ Bs) (h0l : w0.heap.size ≤ l)
    (N : Nat) (hN : N ≤ 1000001) (cs : List ChangeT) (x : ChangeT) (W : World) (h : RdAt w0 fn sv Bs l D cs W) (hlen : cs.length < N) :
    YieldAt F m Tryz.prog l #[changeV x] W fun e W' => e = .returned (.bool true) ∧ RdAt w0 fn sv Bs l D (cs ++ [x]) W' ∧ KeepsWalks W W' := by
  obtain ⟨i0, hi, hz0, hz1, hz2⟩ := info_parts Tryz.infoChange
  obtain ⟨v, hv, hrow⟩ := h.box
  refine ⟨fn, #[.slice none 0 0, sv, .pointer (some ⟨Bs, 0, none⟩), undef, .slice none 0 0, undef, sv, changeV x, undef, undef, undef, undef, undef], rdAssign, rdBody, by simpa [rdRec] using run_yield (P := Tryz.prog) (args := #[changeV x]) h.L rfl, roundIn_of_wpIn hfn ?_⟩
  obtain ⟨⟨x1, x2, x3, x4, x5⟩, xv, xb⟩ := x
  obtain ⟨W1, hW1⟩ : ∃ W1, W.alloc (.cells #[.int .i64 x1, .string x2, .int .i64 x3, .int .i64 x4, .string x5, .string xv, .bool xb] 61) = W1 := ⟨_, rfl⟩
  have hv1 : W1.heap[Bs]? = some (.cells #[v] 58 (0, 0)) := by rw [← hW1]; exact (Below.heap_alloc _ _ _ (lt_of_heap hv)).trans hv
  have hL1 : W1.heap[l]? = some (.loop (rdRec fn sv Bs D .ready none)) := by rw [← hW1]; exact (Below.heap_alloc _ _ _ (lt_of_heap h.L)).trans h.L
  have hK1 : W1.heap[D]? = some (.deferred (some [])) := by rw [← hW1]; exact (Below.heap_alloc _ _ _ (lt_of_heap h.K)).trans h.K
  have hx1 : W1.heap[W.heap.size]? = some (.cells #[.int .i64 x1, .string x2, .int .i64 x3, .int .i64 x4, .string x5, .string xv, .bool xb] 61 (0, 0)) := by rw [← hW1]; exact heap_alloc_new W _
  have hrow1 : W1.ownsRow w0.heap.size 61 7 v cs.length (cs.flatMap changeCells) := by rw [← hW1]; exact World.ownsRow.alloc hrow _
  have hb1 : Below w0.heap.size w0 W1 := by rw [← hW1]; exact h.below.alloc h.below.size _
  have hk1 : KeepsWalks W W1 := by rw [← hW1]; exact KeepsWalks.alloc _ _
  have hl : l < W1.heap.size := (Array.getElem?_eq_some_iff.1 hL1).1
  have hbr := run_beginRound (P := Tryz.prog) hL1 rfl
  obtain ⟨W2, hW2⟩ : ∃ W2, W1.putObj l (.loop { rdRec fn sv Bs D .ready none with state := .busy }) = W2 := ⟨_, rfl⟩
  rw [hW2] at hbr
  have hne : W.heap.size ≠ l := fun e => by have := lt_of_heap h.L; omega
  have hg2 : W1.grownBy W2 (some l) := by rw [← hW2]; exact rd_putObj _ _ _
  have hk2 : KeepsWalks W W2 := hk1.trans (by rw [← hW2]; exact KeepsWalks.putObj _ hL1 rfl)
  have hv2 : W2.heap[Bs]? = some (.cells #[v] 58 (0, 0)) := by rw [← hW2]; exact (World.putObj_heap_other hBl).trans hv1
  have hK2 : W2.heap[D]? = some (.deferred (some [])) := by rw [← hW2]; exact (World.putObj_heap_other hDl).trans hK1
  have hx2 : W2.heap[W.heap.size]? = some (.cells #[.int .i64 x1, .string x2, .int .i64 x3, .int .i64 x4, .string x5, .string xv, .bool xb] 61 (0, 0)) := by rw [← hW2]; exact (World.putObj_heap_other hne).trans hx1
  have hL2 : W2.heap[l]? = some (.loop { rdRec fn sv Bs D .ready none with state := .busy }) := by rw [← hW2]; exact World.putObj_heap_same hl
  have hrow2 : W2.ownsRow w0.heap.size 61 7 v cs.length (cs.flatMap changeCells) := hrow1.kept hg2 (rdRow_ne hrow1 hL1 (fun cur e => by cases e))
  have hb2 : Below w0.heap.size w0 W2 := hb1.grown hg2 hb1.size (fun k e => by cases e; exact h0l)
  obtain ⟨hc2, hf2⟩ := rd_cell hv2
  have hBlt : Bs < W2.heap.size := (Array.getElem?_eq_some_iff.1 hv2).1
  have hl2 : l < W2.heap.size := (Array.getElem?_eq_some_iff.1 hL2).1
  have hDlt : D < W2.heap.size := (Array.getElem?_eq_some_iff.1 hK2).1
  have ne_of : Hid (∀ {j : Nat} {o : Obj}, W2.heap[j]? = some o → (∀ cur, o ≠ .cells cur 61 (0, 0)) → some j ≠ v.ownBlock) := fun hj hno => by
    rcases rdRow_ne hrow2 hj hno with e | e
    · rw [e]; simp
    · exact fun e' => e e'.symm
  have Hrow2 : Hid (∀ o, (W2.alloc o).ownsRow w0.heap.size 61 7 v cs.length (cs.flatMap changeCells)) := fun o => World.ownsRow.alloc hrow2 o
  have Hr2 := Lib.hid hrow2
  have HBX : Hid (∀ o, (W2.alloc o).heap[W2.heap.size]? = some o) := fun o => heap_alloc_new W2 o
  have Hlt : Hid (cs.length < N) := hlen
  have Hcap : Hid (N ≤ 1000001) := hN
  have Hbz : Hid (w0.heap.size ≤ W2.heap.size) := hb2.size
  have Hv2 := Lib.hid hv2
  have HL2 := Lib.hid hL2
  have HK2 := Lib.hid hK2
  have Hb2 := Lib.hid hb2
  have HK := Lib.hid hk2
  have c0 := cell_of_heap hx2 0
  have c1 := cell_of_heap hx2 1
  have c2 := cell_of_heap hx2 2
  have c3 := cell_of_heap hx2 3
  have c4 := cell_of_heap hx2 4
  have c5 := cell_of_heap hx2 5
  have c6 := cell_of_heap hx2 6
  dsimp at c0 c1 c2 c3 c4 c5 c6
  have Hbr := Lib.hid hbr
  clear hW2 hv2 hL2 hK2 hb2 hk2 hk1 hb1 hrow1 hrow2 hx1 hx2 hK1 hL1 hv1 hg2 hbr h hrow hv hlen hN
  unfold rdAssign changeV
  dsimp only
  gi_wp2
  refine ⟨W2, Hbr.out, ?_⟩
  clear hW1
  unfold rdBody
  gi_wp2_with (first
    | (gi_at_builtin; refine wpListIn_append_own _ rfl _ _ 58 rfl w0.heap.size 61 i0 changeZ 7 80 Tryz.underlying58 hi hz0 hz1 hz2 rfl (by decide) _ _ _ rfl (Hrow2.out _) ⟨W2.heap.size, 0, none⟩ 1 1 (changeCells ⟨⟨x1, x2, x3, x4, x5⟩, xv, xb⟩) rfl rfl (World.news_of_block (HBX.out _)) (by simp [changeCells, Value.oneCell']) (by have := Hlt.out; have := Hcap.out; unfold maxLen; omega) (by have := Hlt.out; have := Hcap.out; omega) (by have := Hbz.out; simp; omega) ?_; intro v' w3 hown' hg3 hnil3
       have hv3 : w3.heap[Bs]? = some (.cells #[v] 58 (0, 0)) := (hg3.block Bs (by simp; omega) (ne_of.out Hv2.out (fun cur e => by cases e))).trans ((Below.heap_alloc _ _ Bs hBlt).trans Hv2.out)
       obtain ⟨hc3, hf3⟩ := rd_cell hv3
       obtain ⟨g', cap', rfl⟩ : ∃ g' cap', v' = .slice (some ⟨g', 0, none⟩) (cs.length + 1) cap' := by
         rcases hown'.2 with ⟨_, h0⟩ | ⟨g', cap', cur', h1, _⟩
         · exact absurd h0 (by omega)
         · exact ⟨g', cap', h1⟩
       have Hv3 := Lib.hid hv3
       have Hown := Lib.hid hown'
       have Hg3 := Lib.hid hg3
       clear hown' hg3 hnil3 hv3 c0 c1 c2 c3 c4 c5 c6 hc2 hf2)
    | gi_in)
  have hg3 := Hg3.out
  have hL3 : w3.heap[l]? = some (.loop { rdRec fn sv Bs D .ready none with state := .busy }) := (hg3.block l (by simp; omega) (ne_of.out HL2.out (fun cur e => by cases e))).trans ((Below.heap_alloc _ _ l hl2).trans HL2.out)
  have hK3 : w3.heap[D]? = some (.deferred (some [])) := (hg3.block D (by simp; omega) (ne_of.out HK2.out (fun cur e => by cases e))).trans ((Below.heap_alloc _ _ D hDlt).trans HK2.out)
  obtain ⟨w4, hw4⟩ : ∃ w4, w3.setCell ⟨Bs, 0, none⟩ (.slice (some ⟨g', 0, none⟩) (cs.length + 1) cap') = w4 := ⟨_, rfl⟩
  rw [hw4]
  have hg4 : w3.grownBy w4 (some Bs) := by rw [← hw4]; exact grown_setCell _ _ _ _
  have hv4 : w4.heap[Bs]? = some (.cells #[.slice (some ⟨g', 0, none⟩) (cs.length + 1) cap'] 58 (0, 0)) := by rw [← hw4]; exact heap_setCell_same Hv3.out 0 _
  have hL4 : w4.heap[l]? = some (.loop { rdRec fn sv Bs D .ready none with state := .busy }) := (hg4.block l (Array.getElem?_eq_some_iff.1 hL3).1 (fun e => hBl (by cases e; rfl))).trans hL3
  have hK4 : w4.heap[D]? = some (.deferred (some [])) := (hg4.block D (Array.getElem?_eq_some_iff.1 hK3).1 (fun e => hDB (by cases e; rfl))).trans hK3
  have hrow4 := Hown.out.kept hg4 (rdRow_ne Hown.out Hv3.out (fun cur e => by cases e))
  have hl4 : l < w4.heap.size := (Array.getElem?_eq_some_iff.1 hL4).1
  have hb3 : Below w0.heap.size w0 w3 := (Hb2.out.alloc Hb2.out.size _).grown hg3 (by have := Hb2.out.size; simp; omega) (fun k e => (Hr2.out.lt k e).1)
  have hb4 : Below w0.heap.size w0 w4 := hb3.grown hg4 hb3.size (fun k e => by cases e; exact h0B)
  have hk4 : KeepsWalks W w4 := ((HK.out.trans (KeepsWalks.alloc _ _)).trans (KeepsWalks.of_grownBy hg3 (rdRow_not_walk (Hrow2.out _)))).trans (by rw [← hw4]; exact KeepsWalks.setCell _ _ _)
  clear hw4
  refine ⟨_, _, run_endRound none hL4, rfl, ⟨⟨_, (World.putObj_heap_other hBl).trans hv4, ?_⟩, World.putObj_heap_same hl4, (World.putObj_heap_other hDl).trans hK4, hb4.grown (rd_putObj _ _ _) hb4.size (fun k e => by cases e; exact h0l)⟩, hk4.trans (KeepsWalks.putObj _ hL4 rfl)⟩
  have := hrow4.kept (rd_putObj w4 l (.loop { { rdRec fn sv Bs D .ready none with state := .busy } with state := if (none : Option Code).isNone then .ready else .done, pending := none })) (rdRow_ne hrow4 hL4 (fun cur e => by cases e))
  simpa using this
end Go.Proofs.YtfchfjipkggnkaaGreatDoor

namespace Go.Proofs.YtfchfjipkggnkaaGreatDoor
open Go.RowKit Go.ChangeMaps Go.Shelf
attribute [local go_sem] Oper.semAt_some

set_option maxRecDepth 100000 in
set_option maxHeartbeats 4000000 in
theorem rdAppend_in (F : Fence) (n : Nat) (hf : F.fn 97) (hro : F.round = none) (hn : 2 ≤ n) (g : Nat) (lb : Array Value) (hFg : F.fn g) (eg : ∀ args w, (callFunc g args).run Tryz.prog w = .ok (.enter g args) w)
    (S : List ChangeT → Prop) (N : Nat) (hN : N ≤ 1000001) (w : World) (hseq : SeqGives F (n - 1) Tryz.prog g lb changeV S N w) :
    CallsIn F n Tryz.prog 97 #[.slice none 0 0, .func (.func g) #[] lb] w fun e w' => ∃ (v : Value) (cs : List ChangeT), e = .returned v ∧ S cs ∧ w'.ownsRow w.heap.size 61 7 v cs.length (cs.flatMap changeCells) ∧ Below w.heap.size w w' := by
  have h1 : 1 ≤ n := by omega
  refine callsIn_of_wp_marks Tryz.func97 rfl hf ?_ hro
  simp only [Tryz.ntmps97, List.size_toArray, List.length_cons, List.length_nil, Nat.reduceAdd, Nat.reduceSub, Array.replicate_succ, Array.replicate_zero, List.push_toArray, List.append_toArray, List.nil_append, List.cons_append]
  gi_wp2
  refine wpIn_rangeFunc ?_
  intro fn hfn
  rw [hro]
  obtain ⟨W0, hW0⟩ : ∃ W0, w.alloc (.cells #[.slice none 0 0] 58) = W0 := ⟨_, rfl⟩
  have hs0 : W0.heap.size = w.heap.size + 1 := by rw [← hW0]; simp
  have hv0 : W0.heap[w.heap.size]? = some (.cells #[.slice none 0 0] 58 (0, 0)) := by rw [← hW0]; exact World.alloc_heap_new w _
  have hb0 : Below w.heap.size w W0 := by rw [← hW0]; exact (Below.refl _ w).alloc (Nat.le_refl _) _
  rw [hW0]
  obtain ⟨W1, hW1⟩ : ∃ W1, (W0.alloc (.deferred (some []))).alloc (.loop (rdRec fn (.func (.func g) #[] lb) w.heap.size W0.heap.size .ready none)) = W1 := ⟨_, rfl⟩
  have hold : ∀ k, k < W0.heap.size → W1.heap[k]? = W0.heap[k]? := fun k hk => by
    rw [← hW1]; exact (Below.heap_alloc _ _ k (by simp; omega)).trans (Below.heap_alloc _ _ k hk)
  have hb1 : Below w.heap.size w W1 := by rw [← hW1]; exact (hb0.alloc hb0.size _).alloc (by have := hb0.size; simp; omega) _
  have hs1 : W1.heap.size = W0.heap.size + 2 := by rw [← hW1]; simp
  have hM : RdAt w fn (.func (.func g) #[] lb) w.heap.size (W0.heap.size + 1) W0.heap.size [] W1 :=
    ⟨⟨_, (hold w.heap.size (by omega)).trans hv0, World.ownsRow_nil _ _ _ _⟩,
     by rw [← hW1]; have := World.alloc_heap_new (W0.alloc (.deferred (some []))) (.loop (rdRec fn (.func (.func g) #[] lb) w.heap.size W0.heap.size .ready none)); rwa [World.size_alloc] at this,
     by rw [← hW1]; exact (Below.heap_alloc _ _ _ (by simp)).trans (World.alloc_heap_new W0 _), hb1⟩
  refine ⟨W0.heap.size + 1, [{ target := .collected W0.heap.size, args := #[] }], W1, { target := .fn (.func g) lb, args := #[.func (.yield (W0.heap.size + 1)) #[] #[]] }, W1, g,
    #[.func (.yield (W0.heap.size + 1)) #[] #[]] ++ lb, W1, ?_, ?_, ?_, ?_, fun _ => h1, ?_⟩
  · rw [← hW1]; exact run_enterLoop_outer _ _ _ _ _
  · simp [resolve, go_sem]
  · intro f' hf'; simp [Target.leads] at hf'; subst hf'; exact hFg
  · simp [invoke, go_sem, eg]
  · refine (hseq (W0.heap.size + 1) (RdAt w fn (.func (.func g) #[] lb) w.heap.size (W0.heap.size + 1) W0.heap.size) W1 hb1 (rd_abides _ _ _ _ _ _ _ hb1.size)
      (fun pre x W hJ hl => rdYield F (n - 1 - 1) w fn hfn _ w.heap.size (W0.heap.size + 1) W0.heap.size (by omega) (by omega) (by omega) (Nat.le_refl _) (by omega) N hN pre x W hJ hl) hM).mono ?_
    rintro e W2 ⟨⟨v0, rfl⟩, cs, hS, h2⟩
    obtain ⟨v, hv, hrow⟩ := h2.box
    have hend := run_endLoop (P := Tryz.prog) h2.L (by simp [rdRec])
    obtain ⟨W3, hW3⟩ : ∃ W3, W2.putObj (W0.heap.size + 1) (.loop { rdRec fn (.func (.func g) #[] lb) w.heap.size W0.heap.size .ready none with state := .exhausted }) = W3 := ⟨_, rfl⟩
    rw [hW3] at hend
    have hg3 : W2.grownBy W3 (some (W0.heap.size + 1)) := by rw [← hW3]; exact rd_putObj _ _ _
    have hv3 : W3.heap[w.heap.size]? = some (.cells #[v] 58 (0, 0)) := by rw [← hW3]; exact (World.putObj_heap_other (by omega)).trans hv
    have hK3 : W3.heap[W0.heap.size]? = some (.deferred (some [])) := by rw [← hW3]; exact (World.putObj_heap_other (by omega)).trans h2.K
    have hrow3 := hrow.kept hg3 (rdRow_ne hrow h2.L (fun cur e => by cases e))
    have hb3 : Below w.heap.size w W3 := h2.below.grown hg3 h2.below.size (fun k e => by cases e; omega)
    obtain ⟨hc3, hf3⟩ := rd_cell hv3
    clear hW3
    refine ⟨none, W3, hend, ?_⟩
    gi_wp2
    rw [← hs0]
    refine ⟨by simp, .inl ⟨_, _, rfl, run_takeDeferred hK3, ?_⟩⟩
    exact ⟨_, results_tmp rfl _ _ _, v, cs, rfl, hS, hrow3.kept (rd_putObj _ _ _) (rdRow_ne hrow3 hK3 (fun cur e => by cases e)), hb3.grown (rd_putObj _ _ _) hb3.size (fun k e => by cases e; omega)⟩

set_option maxRecDepth 100000 in
set_option maxHeartbeats 1000000 in
theorem rdCollect_in (F : Fence) (n : Nat) (h8 : F.fn 66) (h11 : F.fn 97) (hro : F.round = none) (hn : 3 ≤ n) (g : Nat) (lb : Array Value) (hFg : F.fn g) (eg : ∀ args w, (callFunc g args).run Tryz.prog w = .ok (.enter g args) w)
    (S : List ChangeT → Prop) (N : Nat) (hN : N ≤ 1000001) (w : World) (hseq : SeqGives F (n - 1 - 1) Tryz.prog g lb changeV S N w) :
    CallsIn F n Tryz.prog 66 #[.func (.func g) #[] lb] w fun e w' => ∃ (v : Value) (cs : List ChangeT), e = .returned v ∧ S cs ∧ w'.ownsRow w.heap.size 61 7 v cs.length (cs.flatMap changeCells) ∧ Below w.heap.size w w' := by
  have h1 : 1 ≤ n := by omega
  refine callsIn_of_wp Tryz.func66 rfl h8 ?_ hro
  simp only [Tryz.ntmps66, List.size_toArray, List.length_cons, List.length_nil, Nat.reduceAdd, Nat.reduceSub, Array.replicate_succ, Array.replicate_zero, List.push_toArray, List.append_toArray, List.nil_append, List.cons_append]
  gi_wp2_with (gi_at_call 97; refine (rdAppend_in F (n - 1) h11 hro (by omega) g lb hFg eg S N hN _ hseq).mono ?_; rintro e w' ⟨v, cs, rfl, hS, hrow, hb⟩)
  go_ret
  exact ⟨v, cs, rfl, hS, hrow, hb⟩
end Go.Proofs.YtfchfjipkggnkaaGreatDoor

namespace Go.Proofs.YtfchfjipkggnkaaGreatDoor
open Go.RowKit Go.ChangeMaps

/-- What Reads hands back. -/
def ReadsPost (w : World) (V : AV) (r : Ending) (w' : World) : Prop :=
  ∃ v cs, r = .returned v ∧ RowC w' v cs ∧ cs.Perm (V.reads.map Prod.snd) ∧ SortedC cs ∧ Below w.heap.size w w'
theorem rd_gives (bm Bm : Nat) (l0 : List (NameT × ChangeT)) (w : World) (hm : MapIs changeV w bm l0) (hc : w.cell? ⟨Bm, 0, none⟩ = some (.map (some bm))) (hn : l0.length ≤ 1000000) :
    ∃ N, N ≤ 1000001 ∧ SeqGives Fence.wide 1 Tryz.prog 67 #[.pointer (some ⟨Bm, 0, none⟩)] changeV (fun cs => cs.Perm (l0.map Prod.snd)) N w := by
  obtain ⟨es, clock, hb, hl, hst⟩ := hm
  have hsz : es.size = l0.length := by
    have := congrArg List.length hl
    simpa using this
  refine ⟨es.size, by omega, fun l J W hW hJ hY h0 => ?_⟩
  have hlt := World.block_lt_of_cell? w _ hc
  exact rdValues_in Fence.wide 1 trivial rfl (Nat.le_refl _) l Bm bm es clock l0 J hY W hJ ((hW.cell (p := ⟨Bm, 0, none⟩) hlt).trans hc) ((hW.block bm (lt_of_heap hb)).trans hb) hl hst h0
set_option maxRecDepth 100000 in
set_option maxHeartbeats 1000000 in
theorem rdSorted_any (bm Bm : Nat) (l0 : List (NameT × ChangeT)) (w : World) (hm : MapIs changeV w bm l0) (hc : w.cell? ⟨Bm, 0, none⟩ = some (.map (some bm))) (hn : l0.length ≤ 1000000) (hk : ReadsOk l0) :
    Calls Tryz.prog 38 #[.func (.func 67) #[] #[.pointer (some ⟨Bm, 0, none⟩)], .func (.func 40) #[] #[]] w (ReadsPost w ⟨fun _ => none, l0, []⟩) := by
  obtain ⟨N, hN, hseq⟩ := rd_gives bm Bm l0 w hm hc hn
  have hcol := callsIn_wide.1 (rdCollect_in Fence.wide 3 trivial trivial rfl (Nat.le_refl _) 67 #[.pointer (some ⟨Bm, 0, none⟩)] trivial (enters_of Tryz.func67 (by kernel_rfl) rfl) _ N hN w hseq)
  have Hcol := Lib.hid hcol; clear hcol hseq
  have Hk := Lib.hid hk; clear hk
  clear hm hc
  go_enter Tryz.func38, Tryz.ntmps38
  go_wp2_with fail
  refine Hcol.out.mono ?_
  rintro e w1 ⟨v, cs, rfl, hS, hrow, hb⟩
  have hlen : cs.length = l0.length := by rw [hS.length_eq, List.length_map]
  have hfit : ∀ c ∈ cs, FitN c.name := fun c hc => by
    obtain ⟨p, hp, rfl⟩ := List.mem_map.1 (hS.mem_iff.1 hc)
    obtain ⟨h1, h2⟩ := Hk.out.2 p hp
    rw [h1]
    exact h2
  have Hso := Lib.hid (changeSort_any w.heap.size v cs w1 hrow hfit (by omega))
  have HS := Lib.hid hS
  have Hb := Lib.hid hb
  clear hS hrow hb hfit hlen Hcol
  go_wp2_with fail
  refine Hso.out.mono ?_
  rintro e w2 ⟨rfl, cs', hp, hs, hr, hb2⟩
  have HF : Hid (ReadsPost w ⟨fun _ => none, l0, []⟩ (.returned v) w2) := ⟨v, cs', rfl, hr, hp.trans HS.out, hs, Hb.out.trans hb2⟩
  clear hp hs hr hb2 Hso
  go_wp2
  go_ret
  exact HF.out
set_option maxRecDepth 100000 in
set_option maxHeartbeats 1000000 in
theorem rdMake_any (m : Option Nat) (w : World) : Calls Tryz.prog 39 #[.map m] w fun e w' => e = .returned (.func (.func 67) #[] #[.pointer (some ⟨w.heap.size, 0, none⟩)]) ∧ w' = w.alloc (.cells #[.map m] 75) := by
  have hmf : ∀ (fn : Fn) (first cap : Array Value) (w : World), (Instr.makeFunc fn first cap).run Tryz.prog w = .ok (.func fn first cap) w := fun _ _ _ _ => rfl
  go_enter Tryz.func39, Tryz.ntmps39
  go_wp2
  go_ret
  exact ⟨rfl, rfl⟩
set_option maxRecDepth 100000 in
set_option maxHeartbeats 1000000 in
theorem reads_any (h : VH) (V : AV) (w : World) (hv : ViewAt w h V) (hn : V.reads.length ≤ 1000000) :
    Calls Tryz.prog 17 #[.pointer (some ⟨h.b, 0, none⟩)] w (ReadsPost w V) := by
  have c1 : w.cell? ⟨h.b, 1, none⟩ = some (.map (some h.rm)) := cell_of_heap hv.heap 1
  have Hm := Lib.hid hv.reads
  have Hk := Lib.hid hv.rdk
  clear hv
  obtain ⟨b, rm, lm, cv, sp, bs⟩ := h
  dsimp only at c1 ⊢
  go_enter Tryz.func17, Tryz.ntmps17
  go_wp2_with fail
  refine (rdMake_any (some rm) w).mono ?_
  rintro e w1 ⟨rfl, rfl⟩
  have Hso := Lib.hid (rdSorted_any rm w.heap.size V.reads (w.alloc (.cells #[.map (some rm)] 75)) (Hm.out.kept (Below.heap_alloc _ _ _ Hm.out.lt)) (cell_of_heap (heap_alloc_new w _) 0) hn Hk.out)
  have Hb1 : Hid (Below w.heap.size w (w.alloc (.cells #[.map (some rm)] 75))) := (Below.refl _ _).alloc (Nat.le_refl _) _
  go_wp2_with fail
  refine Hso.out.mono ?_
  rintro e w2 ⟨v, cs, rfl, hr, hp, hs, hb2⟩
  have HF : Hid (ReadsPost w V (.returned v) w2) := ⟨v, cs, rfl, hr, hp, hs, Hb1.out.trans (hb2.mono (by simp))⟩
  clear hr hp hs hb2 Hso
  go_wp2
  go_ret
  exact HF.out
theorem qmReads {w0 w : World} {b M : Nat} {V : AV} {G : Nat → Prop} (s : QM w0 w b M V G) (hn : V.reads.length ≤ 1000000) : Calls Tryz.prog 17 #[.pointer (some ⟨b, 0, none⟩)] w fun r w' => ∃ v cs, r = .returned v ∧ RowC w' v cs ∧ cs.Perm (V.reads.map Prod.snd) ∧ SortedC cs ∧ Below w.heap.size w w' ∧ QM w0 w' b M V G := by
  have s' := s
  obtain ⟨⟨h, hv, hb, rfl, h2, h4⟩, h5⟩ := s
  refine (reads_any h V w hv hn).mono ?_
  rintro r w' ⟨v, cs, h1, h2, h3, h4, h6⟩
  exact ⟨v, cs, h1, h2, h3, h4, h6, s'.later h6⟩
end Go.Proofs.YtfchfjipkggnkaaGreatDoor

namespace Go.Proofs.YtfchfjipkggnkaaGreatDoor
open Go.RowKit Go.ChangeMaps

def OwnC (base : Nat) (w : World) (v : Value) (cs : List ChangeT) : Prop := w.ownsRow base 61 7 v cs.length (cs.flatMap changeCells)
theorem OwnC.row {base : Nat} {w : World} {v : Value} {cs : List ChangeT} (h : OwnC base w v cs) : RowC w v cs := by
  obtain ⟨hl, ⟨rfl, hn⟩ | ⟨g, cap, cur, rfl, hg, hblk, hcap, hmax, hsz, htake⟩⟩ := h
  · obtain rfl : cs = [] := List.eq_nil_of_length_eq_zero hn
    exact ⟨none, 0, rfl, fun i c hi => by simp at hi⟩
  · refine ⟨some ⟨g, 0, none⟩, cap, rfl, fun i c hi => ⟨g, rfl, fun j u hj => ?_⟩⟩
    have hjl : j < 7 := (List.getElem?_eq_some_iff.1 hj).1
    have hi' := (List.getElem?_eq_some_iff.1 hi).1
    have hfl := flat_get cs i j c hi hjl hj
    rw [← htake, List.getElem?_take_of_lt (by omega)] at hfl
    rw [cell_of_heap hblk, ← Array.getElem?_toList]
    exact hfl
theorem flat_len (cs : List ChangeT) : (cs.flatMap changeCells).length = cs.length * 7 := by
  induction cs with
  | nil => rfl
  | cons c cs ih =>
    rw [List.flatMap_cons, List.length_append, ih, List.length_cons]
    show 7 + _ = _
    omega
def SortOwn (base : Nat) (W : World) (v : Value) (cs : List ChangeT) (r : Ending) (w' : World) : Prop :=
  r = .returned (.tuple #[]) ∧ ∃ cs', cs'.Perm cs ∧ SortedC cs' ∧ OwnC base w' v cs' ∧ Below base W w'
set_option maxRecDepth 100000 in
theorem changeSort_own (base : Nat) (v : Value) (cs : List ChangeT) (W : World) (hrow : OwnC base W v cs) (hf : ∀ c ∈ cs, FitN c.name) (hlen : cs.length ≤ 1000000) :
    Calls Tryz.prog 41 #[v, .func (.func 40) #[] #[]] W (SortOwn base W v cs) := by
  obtain ⟨hl, ⟨rfl, hn⟩ | ⟨g, cap, cur, rfl, hg, hblk, hcap, hmax, hsz, htake⟩⟩ := hrow
  · obtain rfl : cs = [] := List.eq_nil_of_length_eq_zero hn
    refine (AnyF.slices_SortFunc_none sortCh none 0 (.func (.func 40) #[] #[]) W).mono ?_
    rintro e w' ⟨rfl, rfl⟩
    exact ⟨rfl, [], .nil, .nil, World.ownsRow_nil _ _ _ _, Below.refl _ _⟩
  · have eg : ∀ args w, (callFunc 40 args).run Tryz.prog w = .ok (.enter 40 args) w := enters_of Tryz.func40 (by kernel_rfl) rfl
    obtain ⟨d, hd⟩ : ∃ d : Array ChF, d.toList.map (·.1) = cs := ⟨(cs.attach.map fun c => ⟨c.1, hf c.1 c.2⟩).toArray, by simp⟩
    have hds : d.size = cs.length := by rw [← hd]; simp
    have hlt : g < W.heap.size := lt_of_heap hblk
    have hH : Go.Sort.HoldsK encF 7 W g 0 d := by
      intro t ht
      rw [Go.Sort.size_flatK] at ht
      rw [Nat.zero_add]
      refine ⟨?_, frozen_of_heap hblk t⟩
      have hi : t / 7 < d.size := by omega
      rw [Go.Sort.get_flatK _ _ _ _ ht, getElem!_pos d _ hi]
      have hc : cs[t / 7]? = some d[t / 7].1 := by rw [← hd]; simp [hi]
      have hjl : t % 7 < (changeCells d[t / 7].1).length := Nat.mod_lt _ (by decide)
      have hfl := flat_get cs (t / 7) (t % 7) _ hc (Nat.mod_lt _ (by decide)) (List.getElem?_eq_getElem hjl)
      rw [show t / 7 * 7 + t % 7 = t by omega, ← htake, List.getElem?_take_of_lt (by rw [← hds]; exact ht)] at hfl
      rw [cell_of_heap hblk t, ← Array.getElem?_toList, hfl]
      unfold encF
      rw [getElem!_pos (changeCells d[t / 7].1) _ hjl]
      rfl
    have hcon := AnyQ.slices_SortFunc sortCh 7 Tryz.isAgg61 Tryz.sizeOf61 encF (fun _ => rfl) (fun x v hv => by
      simp [encF, changeCells] at hv
      rcases hv with rfl | rfl | rfl | rfl | rfl | rfl | rfl <;> rfl) cfF swoF 40 #[] g 0 cap d W eg (lays_byName g d.size W) hH hlt (by omega)
    rw [hds] at hcon
    refine hcon.mono ?_
    rintro e w' ⟨rfl, d', n, os, hp, hs, rfl⟩
    have hsz' : d'.size = d.size := hp.1
    have hlen' : (d'.toList.map (·.1)).length = cs.length := by simp [hsz', hds]
    have hblk' : (sortWorldK encF 7 W g 0 n d' os).heap[g]? = some (.cells (Go.Sort.putCells id 0 (Go.Sort.flatK encF 7 d') cur) 61 (0, 0)) := by
      simp only [sortWorldK, Go.Sort.grow, Go.Sort.putRowK, Go.Sort.putRow, Go.Sort.mapBlock, Go.Sort.ahead]
      rw [Array.getElem?_append_left (by simp; omega), Array.getElem?_modify, if_pos rfl, hblk]
      rfl
    refine ⟨rfl, d'.toList.map (·.1), ?_, ?_, ⟨flat_len _, .inr ⟨g, cap, _, by rw [hlen'], hg, hblk', by rw [hlen']; exact hcap, hmax, by simp [Go.Sort.putCells, hsz], ?_⟩⟩, sortWorld_below hg (by omega)⟩
    · have h := hp.2.2
      have e1 : d'.extract 0 cs.length = d' := by rw [← hds, ← hsz']; simp
      have e2 : d.extract 0 cs.length = d := by rw [← hds]; simp
      rw [e1, e2] at h
      rw [← hd]
      exact h.map _
    · unfold SortedC
      rw [List.pairwise_map, List.pairwise_iff_getElem]
      intro i j hi hj hij
      have h := hs i j (Nat.zero_le _) hij (by simpa [hsz', hds] using hj)
      rw [getElem!_pos d' j (by simpa using hj), getElem!_pos d' i (by simpa using hi), ltF, decide_eq_false_iff_not] at h
      have := cmpN_ok.anti d'[i].1.name d'[j].1.name
      simp only [Array.getElem_toList]
      omega
    · rw [hlen']
      apply List.ext_getElem?
      intro t
      by_cases ht : t < cs.length * 7
      · rw [List.getElem?_take_of_lt ht]
        have hi : t / 7 < d'.size := by omega
        have hx : d'[t / 7]? = some d'[t / 7] := Array.getElem?_eq_getElem hi
        have hc : (d'.toList.map (·.1))[t / 7]? = some d'[t / 7].1 := by simp [hi]
        have hjl : t % 7 < (changeCells d'[t / 7].1).length := Nat.mod_lt _ (by decide)
        have hfl := flat_get _ (t / 7) (t % 7) _ hc (Nat.mod_lt _ (by decide)) (List.getElem?_eq_getElem hjl)
        have hcell := flatF d' (t / 7) (t % 7) _ hx (Nat.mod_lt _ (by decide)) _ g (holdsK_sortWorldK encF 7 W g 0 n d d' os hlt hH hsz') _ (List.getElem?_eq_getElem hjl)
        rw [show t / 7 * 7 + t % 7 = t by omega] at hfl hcell
        rw [cell_of_heap hblk' t, ← Array.getElem?_toList] at hcell
        rw [hcell, hfl]
      · rw [List.getElem?_eq_none (by rw [List.length_take]; omega), List.getElem?_eq_none (by rw [flat_len, hlen']; omega)]

/-- What Reads hands back. -/
def ReadsOwn (w : World) (V : AV) (r : Ending) (w' : World) : Prop :=
  ∃ v cs, r = .returned v ∧ OwnC w.heap.size w' v cs ∧ cs.Perm (V.reads.map Prod.snd) ∧ SortedC cs ∧ Below w.heap.size w w'
set_option maxRecDepth 100000 in
set_option maxHeartbeats 1000000 in
theorem rdSorted_own (bm Bm : Nat) (l0 : List (NameT × ChangeT)) (w : World) (hm : MapIs changeV w bm l0) (hc : w.cell? ⟨Bm, 0, none⟩ = some (.map (some bm))) (hn : l0.length ≤ 1000000) (hk : ReadsOk l0) :
    Calls Tryz.prog 38 #[.func (.func 67) #[] #[.pointer (some ⟨Bm, 0, none⟩)], .func (.func 40) #[] #[]] w (ReadsOwn w ⟨fun _ => none, l0, []⟩) := by
  obtain ⟨N, hN, hseq⟩ := rd_gives bm Bm l0 w hm hc hn
  have hcol := callsIn_wide.1 (rdCollect_in Fence.wide 3 trivial trivial rfl (Nat.le_refl _) 67 #[.pointer (some ⟨Bm, 0, none⟩)] trivial (enters_of Tryz.func67 (by kernel_rfl) rfl) _ N hN w hseq)
  have Hcol := Lib.hid hcol; clear hcol hseq
  have Hk := Lib.hid hk; clear hk
  clear hm hc
  go_enter Tryz.func38, Tryz.ntmps38
  go_wp2_with fail
  refine Hcol.out.mono ?_
  rintro e w1 ⟨v, cs, rfl, hS, hrow, hb⟩
  have hlen : cs.length = l0.length := by rw [hS.length_eq, List.length_map]
  have hfit : ∀ c ∈ cs, FitN c.name := fun c hc => by
    obtain ⟨p, hp, rfl⟩ := List.mem_map.1 (hS.mem_iff.1 hc)
    obtain ⟨h1, h2⟩ := Hk.out.2 p hp
    rw [h1]
    exact h2
  have Hso := Lib.hid (changeSort_own w.heap.size v cs w1 hrow hfit (by omega))
  have HS := Lib.hid hS
  have Hb := Lib.hid hb
  clear hS hrow hb hfit hlen Hcol
  go_wp2_with fail
  refine Hso.out.mono ?_
  rintro e w2 ⟨rfl, cs', hp, hs, hr, hb2⟩
  have HF : Hid (ReadsOwn w ⟨fun _ => none, l0, []⟩ (.returned v) w2) := ⟨v, cs', rfl, hr, hp.trans HS.out, hs, Hb.out.trans hb2⟩
  clear hp hs hr hb2 Hso
  go_wp2
  go_ret
  exact HF.out
set_option maxRecDepth 100000 in
set_option maxHeartbeats 1000000 in
theorem reads_own (h : VH) (V : AV) (w : World) (hv : ViewAt w h V) (hn : V.reads.length ≤ 1000000) :
    Calls Tryz.prog 17 #[.pointer (some ⟨h.b, 0, none⟩)] w (ReadsOwn w V) := by
  have c1 : w.cell? ⟨h.b, 1, none⟩ = some (.map (some h.rm)) := cell_of_heap hv.heap 1
  have Hm := Lib.hid hv.reads
  have Hk := Lib.hid hv.rdk
  clear hv
  obtain ⟨b, rm, lm, cv, sp, bs⟩ := h
  dsimp only at c1 ⊢
  go_enter Tryz.func17, Tryz.ntmps17
  go_wp2_with fail
  refine (rdMake_any (some rm) w).mono ?_
  rintro e w1 ⟨rfl, rfl⟩
  have Hso := Lib.hid (rdSorted_own rm w.heap.size V.reads (w.alloc (.cells #[.map (some rm)] 75)) (Hm.out.kept (Below.heap_alloc _ _ _ Hm.out.lt)) (cell_of_heap (heap_alloc_new w _) 0) hn Hk.out)
  have Hb1 : Hid (Below w.heap.size w (w.alloc (.cells #[.map (some rm)] 75))) := (Below.refl _ _).alloc (Nat.le_refl _) _
  go_wp2_with fail
  refine Hso.out.mono ?_
  rintro e w2 ⟨v, cs, rfl, hr, hp, hs, hb2⟩
  have hr' : OwnC w.heap.size w2 v cs := by
    obtain ⟨hl, h | ⟨g, cap, cur, h1, hg, h2⟩⟩ := hr
    · exact ⟨hl, .inl h⟩
    · exact ⟨hl, .inr ⟨g, cap, cur, h1, Nat.le_trans (by simp) hg, h2⟩⟩
  have HF : Hid (ReadsOwn w V (.returned v) w2) := ⟨v, cs, rfl, hr', hp, hs, Hb1.out.trans (hb2.mono (by simp))⟩
  clear hr hr' hp hs hb2 Hso
  go_wp2
  go_ret
  exact HF.out
theorem qmReadsO {w0 w : World} {b M : Nat} {V : AV} {G : Nat → Prop} (s : QM w0 w b M V G) (hn : V.reads.length ≤ 1000000) : Calls Tryz.prog 17 #[.pointer (some ⟨b, 0, none⟩)] w fun r w' => ∃ v cs, r = .returned v ∧ OwnC w.heap.size w' v cs ∧ cs.Perm (V.reads.map Prod.snd) ∧ SortedC cs ∧ Below w.heap.size w w' ∧ QM w0 w' b M V G := by
  have s' := s
  obtain ⟨⟨h, hv, hb, rfl, h2, h4⟩, h5⟩ := s
  refine (reads_own h V w hv hn).mono ?_
  rintro r w' ⟨v, cs, h1, h2, h3, h4, h6⟩
  exact ⟨v, cs, h1, h2, h3, h4, h6, s'.later h6⟩
attribute [local go_sem ↓] Go.wp_at_zero Go.wp_at_succ
/-- A slice as append likes it. -/
def NilOr (v : Value) : Prop := v = .slice none 0 0 ∨ ∃ g n cap, v = .slice (some ⟨g, 0, none⟩) n cap
theorem row_nilOr {w : World} {base : Nat} {e : TypeId} {size : Nat} {v : Value} {n : Nat} {xs : List Value} (h : w.ownsRow base e size v n xs) : NilOr v := by
  rcases h.2 with ⟨hv, _⟩ | ⟨g, cap, cur, hv, _⟩
  · exact .inl hv
  · exact .inr ⟨g, n, cap, hv⟩
def WritesOwn (w : World) (V : AV) (r : Ending) (w' : World) : Prop :=
  ∃ v cs, r = .returned v ∧ RowC w' v cs ∧ cs.Perm (writesU V.calls) ∧ SortedC cs ∧ Below w.heap.size w w' ∧ NilOr v
set_option maxRecDepth 100000 in
set_option maxHeartbeats 6400000 in
theorem writes_own (h : VH) (V : AV) (w : World) (hv : ViewAt w h V) :
    Calls Tryz.prog 18 #[.pointer (some ⟨h.b, 0, none⟩)] w (WritesOwn w V) := by
  obtain ⟨b, rm, lm, cv, sp, bs⟩ := h
  dsimp only
  have c3 : w.cell? ⟨b, 3, none⟩ = some (.map (some lm)) := cell_of_heap hv.heap 3
  have hlt : b < w.heap.size := lt_of_heap hv.heap
  obtain ⟨es, clock, hm, hl, hst⟩ := hv.last
  dsimp only at hm
  have hst0 := Lib.hid (wri_start (w := w) (h := ⟨b, rm, lm, cv, sp, bs⟩) (V := V) (es := es) (clock := clock))
  have Hm := Lib.hid hm; clear hm
  have Hl := Lib.hid hl; clear hl
  have Hst := Lib.hid hst; clear hst
  have Hv := Lib.hid hv; clear hv
  obtain ⟨i0, hi, hz0, hz1, hz2⟩ := info_parts Tryz.infoChange
  go_enter Tryz.func18, Tryz.ntmps18
  go_wp2_with (first
    | (at_range; refine wpList_range_map _ rfl _ 76 rfl 56 3 Tryz.underlying76 lm es clock rfl Hm.out ?_)
    | go_in)
  go_loopg [3] es.size (fun gk v wr => WrI w ⟨b, rm, lm, cv, sp, bs⟩ V es clock gk v wr)
  case atStart => exact hst0.out
  case round =>
    clear hst0
    have HI := Lib.hid hrel; clear hrel
    obtain ⟨seen, c0, ps, hit, hsc, hseen, hps, hnd, hgk, hpl, hrow⟩ := HI.out.ex
    have hb0 := HI.out.below
    have hm1 : wr.heap[lm]? = some (.map es clock) := (hb0.block lm (lt_of_heap Hm.out)).trans Hm.out
    have Hit := Lib.hid hit; clear hit
    have Hm1 := Lib.hid hm1; clear hm1
    have Hrow := Lib.hid hrow; clear hrow
    have Hps := Lib.hid hps; clear hps
    have Hnd := Lib.hid hnd; clear hnd
    have Hseen := Lib.hid hseen; clear hseen
    have Hb0 := Lib.hid hb0; clear hb0
    have Hgk := Lib.hid hgk; clear hgk
    have Hpl := Lib.hid hpl; clear hpl
    have Hne : Hid (lm ≠ w.heap.size) := fun e => by have := lt_of_heap Hm.out; omega
    go_wp2_with (first
      | (at_next; refine wpList_next_map _ rfl _ rfl w.heap.size lm clock c0 seen es clock rfl Hit.out Hm1.out Hne.out Hst.out.2 hsc Hst.out.1 ?_ ?_)
      | go_in)
    · intro H0
      have hperm := left_done Hst.out (by rw [H0.out]; rfl) Hseen.out Hps.out Hnd.out
      have hpm : (ps.map (chgOf V.calls)).Perm (writesU V.calls) := by
        rw [← ents_map Hl.out]
        exact hperm.map _
      have hfit : ∀ c ∈ ps.map (chgOf V.calls), FitN c.name := by
        intro c hc
        obtain ⟨e, he, rfl⟩ := List.mem_map.1 hc
        obtain ⟨i, c, _, hi, hci, he2⟩ := ent_ok Hl.out (Hps.out e he)
        rw [he2]
        exact (Hv.out.ok c (List.mem_of_getElem? hci)).1.1
      have hlen : (ps.map (chgOf V.calls)).length ≤ 1000000 := by
        have h1 := es_size Hl.out
        have h2 := Hv.out.len
        have h3 := Hpl.out
        simp; omega
      have hcon := Lib.hid (changeSort_any (w.heap.size + 1) u3 (ps.map (chgOf V.calls)) wr (by simpa using Hrow.out) hfit hlen)
      have Hpm := Lib.hid hpm
      clear hperm hpm hfit hlen
      go_wp2_with fail
      refine hcon.out.mono ?_
      rintro e w4 ⟨rfl, cs, hp4, hs4, hr4, hb4⟩
      have HE : Hid (WritesOwn w V (.returned u3) w4) := ⟨u3, cs, rfl, hr4, hp4.trans Hpm.out, hs4, Hb0.out.trans ⟨hb4.os, hb4.tape, hb4.output, hb4.size, fun k hk => hb4.block k (by omega)⟩, row_nilOr Hrow.out⟩
      clear hcon hp4 hs4 hr4 hb4
      go_wp2
      go_ret
      exact HE.out
    · intro e w2 HN
      obtain ⟨hmem, hw12, hen⟩ := HN.out
      obtain ⟨w1, hw1, hw2⟩ : ∃ w1, (w1 = wr ∨ w1 = wr.drew) ∧ w2 = setBlock w1 w.heap.size (.mapIter (some lm) clock (seen.push e.born) clock) := hw12.elim (fun h => ⟨_, .inl rfl, h⟩) (fun h => ⟨_, .inr rfl, h⟩)
      clear hw12
      replace hmem : e ∈ (leftOf es seen).toList := by simpa using hmem
      obtain ⟨i, c, hval, hi2, hci, hch⟩ := ent_ok Hl.out (left_in hmem).1
      have hb2 : Below w.heap.size wr w2 := by rw [hw2]; exact setBlock_below hw1 (Nat.le_refl _)
      obtain ⟨g, cap, rfl, q2, hi1, e0, e1, e2, e3, e4, e5, e6⟩ := wri_cells Hv.out (Hb0.out.trans hb2) hci
      have Hrow2 : Hid (w2.ownsRow (w.heap.size + 1) 61 7 u3 ps.length ((ps.map (chgOf V.calls)).flatMap changeCells)) := row_keptB Hrow.out (fun k hk _ => setBlock_other hw1 hw2 k (by omega))
      have hs2 : w2.heap.size = wr.heap.size := by rw [hw2]; rcases hw1 with rfl | rfl <;> simp [setBlock]
      have Hs2 : Hid (w.heap.size + 1 ≤ w2.heap.size) := by have := HI.out.lt; show _ ≤ _; omega
      have Hlen : Hid (ps.length ≤ 1000000) := by
        have h1 := es_size Hl.out
        have h2 := Hv.out.len
        have h3 := Hpl.out
        show _ ≤ _
        omega
      rw [hval] at hen ⊢
      have hi0 : (0 : Int) ≤ (i : Int) := Int.natCast_nonneg _
      have Hmem := Lib.hid hmem; clear hmem
      have Hw1 := Lib.hid hw1; clear hw1
      have Hw2 := Lib.hid hw2; clear hw2
      have Hch := Lib.hid hch; clear hch
      clear hval hi2 hci HN hb2 hs2
      generalize e.key = ke at hen ⊢
      have HBX : Hid (∀ T, (w2.alloc (.cells #[.int .i64 c.name.kind, .string c.name.owner, .int .i64 c.name.number, .int .i64 c.name.index, .string c.name.text, .string c.value, .bool c.absent] T)).heap[w2.heap.size]? = some (.cells #[.int .i64 c.name.kind, .string c.name.owner, .int .i64 c.name.number, .int .i64 c.name.index, .string c.name.text, .string c.value, .bool c.absent] T (0, 0))) := fun T => World.alloc_heap_new w2 _
      go_wp2_with (first
        | (at_builtin; go_loud (refine wpList_append_own _ rfl _ _ 58 rfl (w.heap.size + 1) 61 i0 changeZ 7 80 Tryz.underlying58 hi hz0 hz1 hz2 rfl (by decide) u3 ps.length ((ps.map (chgOf V.calls)).flatMap changeCells) rfl (Hrow2.out.alloc _) ⟨w2.heap.size, 0, none⟩ 1 1 (changeCells c) rfl rfl (World.news_of_block (HBX.out _)) (by simp [changeCells, Value.oneCell']) (by have := Hlen.out; unfold maxLen; omega) (by have := Hlen.out; omega) (by have := Hs2.out; simp; omega) ?_; intro v' w3 hown' hgrow hnil; have HW := Lib.hid (wri_next (h := ⟨b, rm, lm, .slice (some ⟨g, 0, none⟩) V.calls.length cap, sp, bs⟩) (V := V) (es := es) (clock := clock) (gk := gk) Hb0.out HI.out.lt ⟨_, Hit.out⟩ Hseen.out Hps.out Hnd.out Hgk.out Hmem.out Hw1.out Hw2.out Hrow.out hown' (by rw [Hch.out]) hgrow); clear hown' hgrow hnil))
        | go_in)
      go_roundg (gk - 1)
      · exact HW.out.1
      · exact HW.out.2
theorem qmWritesO {w0 w : World} {b M : Nat} {V : AV} {G : Nat → Prop} (s : QM w0 w b M V G) : Calls Tryz.prog 18 #[.pointer (some ⟨b, 0, none⟩)] w fun r w' => ∃ v cs, r = .returned v ∧ RowC w' v cs ∧ cs.Perm (writesU V.calls) ∧ SortedC cs ∧ Below w.heap.size w w' ∧ QM w0 w' b M V G ∧ NilOr v := by
  have s' := s
  obtain ⟨⟨h, hv, hn, rfl, h2, h4⟩, h5⟩ := s
  refine (writes_own h V w hv).mono ?_
  rintro r w' ⟨v, cs, h1, h2, h3, h4, h6, h7⟩
  exact ⟨v, cs, h1, h2, h3, h4, h6, s'.later h6, h7⟩
end Go.Proofs.YtfchfjipkggnkaaGreatDoor
