/- view: Reads: the iterator of maps.Values over the map of what was read. -/
import Derived.Test.YtemmeopaihmlcaaGreatDoorWriB
import Derived.RangeFuncGives
import Derived.Maps.AppendAt
import Derived.Shelf.AbstractIn
import Derived.Shelf.Abstract
import Derived.Sort.MapsRangeIn
import Derived.Sort.LoopGhostIn
import Derived.RangeFuncCalls
import Derived.RangeFuncLeaves
import Derived.WalkKit
import Derived.OwnWalkIn
import Derived.TacticsInMore
import Derived.RegionIn
import Derived.LoopNIn
import Derived.LoopIn
namespace Go.Proofs.YtemmeopaihmlcaaGreatDoor
open Go.RowKit Go.ChangeMaps Go.Shelf

section
variable {F : Fence} {n : Nat} {P : Program} (w : World) {ops : Array Oper} {rest : List Oper} {o : Oper} {a : Act} {Q : Exit → Act → World → Prop}
theorem wpListIn_range_map (hg : o.guard = none) (m : Operand) (t : TypeId) (hop : o.op = Op.range t m) (k e : TypeId) (ht : P.underlying t = some (.map k e)) (b : Nat) (es : Array MapEntry) (clock : Nat)
    (hm : a.eval m = .map (some b)) (hb : w.heap[b]? = some (.map es clock))
    (hK : wpListIn F n P ops Q rest (a.put o.dst (.pointer (some ⟨w.heap.size, 0, none⟩))) (w.alloc (.mapIter (some b) clock #[] clock))) :
    wpListIn F n P ops Q (o :: rest) a w := by
  refine wpListIn_plain hg fun K' hK' => ?_
  unfold Oper.wpIn
  refine ⟨by simp [Oper.about, hop], ?_⟩
  rw [Oper.semAt_plain F _ _ (by rw [hop]; intro c hc'; cases hc')]
  simp [execOp, hop, hm, run_range_map w t k e b es clock ht hb, Result.andThen]
  exact hK' _ _ hK
theorem wpListIn_next_map (hg : o.guard = none) (it : Operand) (hop : o.op = Op.next it false) (r bm since c0 : Nat) (seen : Array Nat) (es : Array MapEntry) (clock : Nat)
    (hit : a.eval it = .pointer (some ⟨r, 0, none⟩)) (hr : w.heap[r]? = some (.mapIter (some bm) since seen c0)) (hb : w.heap[bm]? = some (.map es clock)) (hne : bm ≠ r) (hold : ∀ x ∈ es.toList, x.born < since) (hsc : since ≤ c0) (hnd : (es.toList.map (·.born)).Nodup)
    (hDone : Hid ((leftOf es seen).size = 0) → wpListIn F n P ops Q rest (a.put o.dst (.tuple #[.bool false])) w)
    (hMore : ∀ (e : MapEntry) (w' : World), Hid (e ∈ (leftOf es seen).toList ∧ (∃ w1, (w1 = w ∨ w1 = w.drew) ∧ w' = setBlock w1 r (.mapIter (some bm) since (seen.push e.born) clock)) ∧ (Instr.entry (.pointer (some ⟨r, 0, none⟩))).run P w' = .ok (.tuple #[e.key, e.val]) w') →
      wpListIn F n P ops Q rest (a.put o.dst (.tuple #[.bool true, e.key, e.val])) w') :
    wpListIn F n P ops Q (o :: rest) a w := by
  refine wpListIn_plain hg fun K' hK' => ?_
  unfold Oper.wpIn
  refine ⟨by simp [Oper.about, hop], ?_⟩
  rw [Oper.semAt_plain F _ _ (by rw [hop]; intro c hc'; cases hc')]
  rcases run_next_at (P := P) w o.type r bm since c0 seen es clock hr hb hold hsc with ⟨h0, hrun⟩ | ⟨e, he, w1, hw1, hrun⟩
  · simp [execOp, hop, hit, hrun, Result.andThen]
    exact hK' _ _ (hDone h0)
  · have hr1 : w1.heap[r]? = some (.mapIter (some bm) since seen c0) := by rcases hw1 with rfl | rfl <;> exact hr
    have hb1 : w1.heap[bm]? = some (.map es clock) := by rcases hw1 with rfl | rfl <;> exact hb
    have hr2 : (setBlock w1 r (.mapIter (some bm) since (seen.push e.born) clock)).heap[r]? = some (.mapIter (some bm) since (seen.push e.born) clock) := by
      simp [setBlock, lt_of_heap hr1]
    have hb2 : (setBlock w1 r (.mapIter (some bm) since (seen.push e.born) clock)).heap[bm]? = some (.map es clock) := by
      simp only [setBlock]
      rw [Array.getElem?_setIfInBounds_ne (Ne.symm hne)]
      exact hb1
    have hin : e ∈ es.toList := by
      unfold leftOf at he
      simp at he ⊢
      exact he.1
    have hen := run_entry_at (P := P) _ r bm since seen es clock e hr2 hb2 hin hnd
    simp [execOp, hop, hit, hrun, Result.andThen]
    exact hK' _ _ (hMore e _ ⟨he, ⟨w1, hw1, rfl⟩, hen⟩)
end
theorem setBlock_grown {w w1 : World} {r : Nat} {o : Obj} (hw : w1 = w ∨ w1 = w.drew) : w.grownBy (setBlock w1 r o) (some r) := by
  rcases hw with rfl | rfl
  all_goals exact ⟨rfl, rfl, rfl, by simp [setBlock], fun k _ hk => by
    simp only [setBlock]
    rw [Array.getElem?_setIfInBounds_ne (fun e => hk (by rw [e]))]
    try rfl⟩

/-- What an entry of the map of reads says. -/
def rdOf (e : MapEntry) : ChangeT := match e.val with
  | .agg #[.int _ a, .string b, .int _ c, .int _ d, .string f, .string v, .bool x] => ⟨⟨a, b, c, d, f⟩, v, x⟩
  | _ => noChg
theorem rdOf_at {e : MapEntry} {c : ChangeT} (h : e.val = changeV c) : rdOf e = c := by
  unfold rdOf
  rw [h]
  rfl
theorem rd_ent {es : Array MapEntry} {l0 : List (NameT × ChangeT)} (hl : es.toList.map (fun e => (e.key, e.val)) = l0.map (fun p => (nameV p.1, changeV p.2))) {e : MapEntry} (he : e ∈ es.toList) : ∃ c, e.val = changeV c ∧ rdOf e = c := by
  have : (e.key, e.val) ∈ l0.map (fun p => (nameV p.1, changeV p.2)) := by rw [← hl]; exact List.mem_map.2 ⟨e, he, rfl⟩
  obtain ⟨p, hp, h1⟩ := List.mem_map.1 this
  have hv : e.val = changeV p.2 := (Prod.mk.inj h1).2.symm
  exact ⟨p.2, hv, rdOf_at hv⟩
theorem rd_map {es : Array MapEntry} {l0 : List (NameT × ChangeT)} (hl : es.toList.map (fun e => (e.key, e.val)) = l0.map (fun p => (nameV p.1, changeV p.2))) : es.toList.map rdOf = l0.map Prod.snd := by
  generalize es.toList = l at hl
  induction l generalizing l0 with
  | nil => cases l0 with
    | nil => rfl
    | cons p l0 => simp at hl
  | cons e l ih => cases l0 with
    | nil => simp at hl
    | cons p l0 =>
      simp only [List.map_cons, List.cons.injEq, Prod.mk.injEq] at hl ⊢
      exact ⟨rdOf_at hl.1.2, ih hl.2⟩
/-- Between two rounds of the iterator. -/
structure RdI (r bm : Nat) (es : Array MapEntry) (clock : Nat) (J : List ChangeT → World → Prop) (gk : Nat) (wr : World) : Prop where
  ex : ∃ (seen : Array Nat) (c0 : Nat) (ps : List MapEntry), wr.heap[r]? = some (.mapIter (some bm) clock seen c0) ∧ clock ≤ c0 ∧ seen.toList = ps.map (·.born) ∧ (∀ e ∈ ps, e ∈ es.toList) ∧ (ps.map (·.born)).Nodup ∧ (leftOf es seen).size ≤ gk ∧ J (ps.map rdOf) wr
  map : wr.heap[bm]? = some (.map es clock)
theorem rd_len {es : Array MapEntry} {seen : Array Nat} {ps : List MapEntry} {e : MapEntry} (hseen : seen.toList = ps.map (·.born)) (hps : ∀ e ∈ ps, e ∈ es.toList) (hnd : (ps.map (·.born)).Nodup) (he : e ∈ (leftOf es seen).toList) :
    (∀ x ∈ ps ++ [e], x ∈ es.toList) ∧ ((ps ++ [e]).map (·.born)).Nodup ∧ ps.length < es.size := by
  obtain ⟨hin, hns⟩ := left_in he
  have hnd2 : ((ps ++ [e]).map (·.born)).Nodup := by
    rw [List.map_append]
    refine List.nodup_append.2 ⟨hnd, by simp, fun a ha b hb => ?_⟩
    simp at hb
    subst hb
    rw [hseen] at hns
    exact fun e => hns (e ▸ ha)
  have hsub : ∀ x ∈ ps ++ [e], x ∈ es.toList := fun x hx => (List.mem_append.1 hx).elim (hps x) (fun h => by simp at h; rw [h]; exact hin)
  have := sub_len (nodup_of_map hnd2) hsub
  simp at this
  exact ⟨hsub, hnd2, by omega⟩

set_option maxRecDepth 100000 in
set_option maxHeartbeats 2000000 in
theorem rdValues_in (F : Fence) (n : Nat) (hf : F.fn 150) (hro : F.round = none) (hn : 1 ≤ n) (l Bm bm : Nat) (es : Array MapEntry) (clock : Nat) (l0 : List (NameT × ChangeT)) (J : List ChangeT → World → Prop)
    (hY : ∀ pre x W, J pre W → pre.length < es.size → YieldAt F (n - 1) Tryz.prog l #[changeV x] W fun e W' => e = .returned (.bool true) ∧ J (pre ++ [x]) W' ∧ KeepsWalks W W')
    (W : World) (hJ : AbidesFrom W.heap.size J) (hm : W.cell? ⟨Bm, 0, none⟩ = some (.map (some bm))) (hb : W.heap[bm]? = some (.map es clock)) (hl : es.toList.map (fun e => (e.key, e.val)) = l0.map (fun p => (nameV p.1, changeV p.2))) (hst : Stamps es clock) (h0 : J [] W) :
    CallsIn F n Tryz.prog 150 #[.func (.yield l) #[] #[], .pointer (some ⟨Bm, 0, none⟩)] W fun e W' => (∃ v, e = .returned v) ∧ ∃ cs, cs.Perm (l0.map Prod.snd) ∧ J cs W' := by
  have HY := Lib.hid hY; clear hY
  have HJ := Lib.hid hJ; clear hJ
  have Hl := Lib.hid hl; clear hl
  have Hst := Lib.hid hst; clear hst
  have Hb := Lib.hid hb; clear hb
  have Hs0 : Hid (RdI W.heap.size bm es clock J es.size (W.alloc (.mapIter (some bm) clock #[] clock))) :=
    ⟨⟨#[], clock, [], World.alloc_heap_new W _, Nat.le_refl _, rfl, (fun e he => by simp at he), by simp, Array.size_filter_le, HJ.out [] W _ none h0 (World.grownBy_alloc _ _ _) (fun r e => by cases e)⟩, (Below.heap_alloc _ _ _ (lt_of_heap Hb.out)).trans Hb.out⟩
  have Hlt : Hid (bm < W.heap.size) := lt_of_heap Hb.out
  clear h0
  refine callsIn_of_wp Tryz.func150 rfl hf ?_ hro
  simp only [Tryz.ntmps150, List.size_toArray, List.length_cons, List.length_nil, Nat.reduceAdd, Nat.reduceSub, Array.replicate_succ, Array.replicate_zero, List.push_toArray, List.append_toArray, List.nil_append, List.cons_append]
  gi_wp2_with (first
    | (gi_at_range; refine wpListIn_range_map _ rfl _ 128 rfl 31 55 Tryz.underlying128 bm es clock rfl Hb.out ?_)
    | gi_in)
  go_frame
  gi_loopg [4] es.size (fun gk _ wr => RdI W.heap.size bm es clock J gk wr)
  case atStart => exact Hs0.out
  case round =>
    clear Hs0 hm
    have HI := Lib.hid hrel; clear hrel
    obtain ⟨seen, c0, ps, hit, hsc, hseen, hps, hnd, hgk, hjs⟩ := HI.out.ex
    have Hm1 := Lib.hid HI.out.map
    have Hit := Lib.hid hit; clear hit
    have Hps := Lib.hid hps; clear hps
    have Hnd := Lib.hid hnd; clear hnd
    have Hseen := Lib.hid hseen; clear hseen
    have Hgk := Lib.hid hgk; clear hgk
    have Hjs := Lib.hid hjs; clear hjs
    have Hne : Hid (bm ≠ W.heap.size) := fun e => by have := Hlt.out; omega
    gi_wp2_with (first
      | (gi_at_next; refine wpListIn_next_map _ rfl _ rfl W.heap.size bm clock c0 seen es clock rfl Hit.out Hm1.out Hne.out Hst.out.2 hsc Hst.out.1 ?_ ?_)
      | gi_in)
    · intro H0
      have hperm := left_done Hst.out (by rw [H0.out]; rfl) Hseen.out Hps.out Hnd.out
      have hpm : Hid ((ps.map rdOf).Perm (l0.map Prod.snd)) := by
        show List.Perm _ _
        rw [← rd_map Hl.out]
        exact hperm.map _
      gi_wp2
      go_end0
      exact ⟨⟨_, rfl⟩, _, hpm.out, Hjs.out⟩
    · intro e w2 HM
      obtain ⟨he, hw, hen⟩ := HM.out
      have He : Hid (e ∈ (leftOf es seen).toList) := by
        show e ∈ _
        simpa using he
      clear he
      have Hw : Hid (Exists fun w1 => (w1 = wr ∨ w1 = wr.drew) ∧ w2 = setBlock w1 W.heap.size (.mapIter (some bm) clock (seen.push e.born) clock)) := by
        rcases hw with h | h
        · exact ⟨_, .inl rfl, h⟩
        · exact ⟨_, .inr rfl, h⟩
      clear hw
      obtain ⟨hin, hns⟩ := left_in He.out
      obtain ⟨c, hcv, hco⟩ := rd_ent Hl.out hin
      have Hrl := Lib.hid (rd_len Hseen.out Hps.out Hnd.out He.out)
      have Hco := Lib.hid hco
      clear hin hns hco HM
      rw [hcv] at hen ⊢
      clear hcv
      obtain ⟨⟨c1, c2, c3, c4, c5⟩, cv, cb⟩ := c
      unfold changeV at hen ⊢
      dsimp only at hen ⊢
      have HG2 : Hid (wr.grownBy w2 (some W.heap.size)) := by
        obtain ⟨w1, hw1, hw2⟩ := Hw.out
        rw [hw2]
        exact setBlock_grown hw1
      have HJ2 : Hid (J (ps.map rdOf) w2) := HJ.out _ wr w2 (some W.heap.size) Hjs.out HG2.out (fun r e => by cases e; exact ⟨Nat.le_refl _, _, Hit.out, rfl⟩)
      have HJ3 : Hid (∀ o, J (ps.map rdOf) (w2.alloc o)) := fun o => HJ.out _ w2 _ none HJ2.out (World.grownBy_alloc _ _ _) (fun r e => by cases e)
      have HM2 : Hid (w2.heap[bm]? = some (.map es clock)) := (HG2.out.block bm (lt_of_heap Hm1.out) (fun e => by cases e; exact Hne.out rfl)).trans Hm1.out
      have HI2 : Hid (w2.heap[W.heap.size]? = some (.mapIter (some bm) clock (seen.push e.born) clock)) := by
        obtain ⟨w1, hw1, hw2⟩ := Hw.out
        show _ = _
        rw [hw2]
        have := lt_of_heap Hit.out
        rcases hw1 with rfl | rfl <;> simp [setBlock, this]
      obtain ⟨fn, tmps, assign, body, hy, hR⟩ := HY.out (ps.map rdOf) ⟨⟨c1, c2, c3, c4, c5⟩, cv, cb⟩ _ (HJ3.out (.cells #[.int .i64 c1, .string c2, .int .i64 c3, .int .i64 c4, .string c5, .string cv, .bool cb] 55)) (by rw [List.length_map]; exact Hrl.out.2.2)
      unfold changeV at hy
      dsimp only at hy
      have HR := Lib.hid hR; clear hR
      clear HJ2 HJ3 HG2 Hw
      gi_wp2
      refine HR.out.mono ?_
      rintro e' W4 ⟨rfl, hJ4, hk4⟩
      have HJ4 := Lib.hid hJ4; clear hJ4
      have HK4 : Hid (KeepsWalks w2 W4) := (KeepsWalks.alloc _ _).trans hk4
      clear hk4 hy
      gi_wp2
      gi_roundg (gk - 1)
      case measure => have := left_step He.out; have := Hgk.out; omega
      case rel => exact ⟨⟨seen.push e.born, clock, ps ++ [e], HK4.out.same _ _ HI2.out rfl, Nat.le_refl _, by simp [Hseen.out], Hrl.out.1, Hrl.out.2.1, by have := left_step He.out; have := Hgk.out; omega, by rw [List.map_append, List.map_cons, List.map_nil, Hco.out]; exact HJ4.out⟩, HK4.out.same _ _ HM2.out rfl⟩
end Go.Proofs.YtemmeopaihmlcaaGreatDoor
