/- Ranging over a map: the laws at the operations. view: Writes, ahead of the sort. -/
import Derived.Test.YtfchfjipkggnkaaGreatDoorMaps
import Derived.Test.YtfchfjipkggnkaaGreatDoorViewH
import Derived.Test.YtfchfjipkggnkaaGreatDoorStaI
import Derived.Maps.RangeWalk
import Derived.WalkKit
namespace Go.Proofs.YtfchfjipkggnkaaGreatDoor
open Go.RowKit Go.ChangeMaps

section
variable {P : Program} (w : World) {ops : Array Oper} {rest : List Oper} {o : Oper} {a : Act} {Q : Exit → Act → World → Prop}
theorem wpList_range_map (hg : o.guard = none) (m : Operand) (t : TypeId) (hop : o.op = Op.range t m) (k e : TypeId) (ht : P.underlying t = some (.map k e)) (b : Nat) (es : Array MapEntry) (clock : Nat)
    (hm : a.eval m = .map (some b)) (hb : w.heap[b]? = some (.map es clock))
    (hK : wpList P ops Q rest (a.put o.dst (.pointer (some ⟨w.heap.size, 0, none⟩))) (w.alloc (.mapIter (some b) clock #[] clock))) :
    wpList P ops Q (o :: rest) a w := by
  refine wpList_plain hg fun K' hK' => ?_
  unfold Oper.wp
  simp [execOp, hop, hm, run_range_map w t k e b es clock ht hb, Result.andThen]
  exact hK' _ _ hK
theorem wpList_next_map (hg : o.guard = none) (it : Operand) (hop : o.op = Op.next it false) (r bm since c0 : Nat) (seen : Array Nat) (es : Array MapEntry) (clock : Nat)
    (hit : a.eval it = .pointer (some ⟨r, 0, none⟩)) (hr : w.heap[r]? = some (.mapIter (some bm) since seen c0)) (hb : w.heap[bm]? = some (.map es clock)) (hne : bm ≠ r) (hold : ∀ x ∈ es.toList, x.born < since) (hsc : since ≤ c0) (hnd : (es.toList.map (·.born)).Nodup)
    (hDone : Hid ((leftOf es seen).size = 0) → wpList P ops Q rest (a.put o.dst (.tuple #[.bool false])) w)
    (hMore : ∀ (e : MapEntry) (w' : World), Hid (e ∈ (leftOf es seen).toList ∧ (∃ w1, (w1 = w ∨ w1 = w.drew) ∧ w' = setBlock w1 r (.mapIter (some bm) since (seen.push e.born) clock)) ∧ (Instr.entry (.pointer (some ⟨r, 0, none⟩))).run P w' = .ok (.tuple #[e.key, e.val]) w') →
      wpList P ops Q rest (a.put o.dst (.tuple #[.bool true, e.key, e.val])) w') :
    wpList P ops Q (o :: rest) a w := by
  refine wpList_plain hg fun K' hK' => ?_
  unfold Oper.wp
  rcases run_next_at (P := P) w o.type r bm since c0 seen es clock hr hb hold hsc with ⟨h0, hrun⟩ | ⟨e, he, w1, hw1, hrun⟩
  · simp [execOp, hop, hit, hrun, Result.andThen]
    exact hK' _ _ (hDone h0)
  · have hr1 : w1.heap[r]? = some (.mapIter (some bm) since seen c0) := by rcases hw1 with rfl | rfl <;> exact hr
    have hb1 : w1.heap[bm]? = some (.map es clock) := by rcases hw1 with rfl | rfl <;> exact hb
    have hr2 : (setBlock w1 r (.mapIter (some bm) since (seen.push e.born) clock)).heap[r]? = some (.mapIter (some bm) since (seen.push e.born) clock) := by
      simp [setBlock, lt_of_heap hr1]
    have hb2 : (setBlock w1 r (.mapIter (some bm) since (seen.push e.born) clock)).heap[bm]? = some (.map es clock) := by
      simp only [setBlock]
      rw [Array.getElem?_setIfInBounds_ne (Ne.symm hne)]
      exact hb1
    have hin : e ∈ es.toList := by
      unfold leftOf at he
      simp at he ⊢
      exact he.1
    have hen := run_entry_at (P := P) _ r bm since seen es clock e hr2 hb2 hin hnd
    simp [execOp, hop, hit, hrun, Result.andThen]
    exact hK' _ _ (hMore e _ ⟨he, ⟨w1, hw1, rfl⟩, hen⟩)
end
theorem setBlock_below {B : Nat} {w w1 : World} {r : Nat} {o : Obj} (hw : w1 = w ∨ w1 = w.drew) (hr : B ≤ r) : Below B w (setBlock w1 r o) := by
  rcases hw with rfl | rfl
  all_goals exact ⟨rfl, rfl, rfl, by simp [setBlock], fun k hk => by
    simp only [setBlock]
    rw [Array.getElem?_setIfInBounds_ne (by omega)]
    try rfl⟩
end Go.Proofs.YtfchfjipkggnkaaGreatDoor

namespace Go.Proofs.YtfchfjipkggnkaaGreatDoor
open Go.RowKit Go.ChangeMaps

def noChg : ChangeT := ⟨⟨0, ⟨#[]⟩, 0, 0, ⟨#[]⟩⟩, ⟨#[]⟩, false⟩
/-- The call that an entry of the map of last calls names. -/
def chgOf (cs : List ChangeT) (e : MapEntry) : ChangeT := match e.val with
  | .int _ i => cs.getD i.toNat noChg
  | _ => noChg
/-- The last calls, in the order of the map. -/
def writesU (cs : List ChangeT) : List ChangeT := (lastOf cs).map fun p => cs.getD p.2 noChg
theorem last_lt (cs : List ChangeT) : ∀ p ∈ lastOf cs, p.2 < cs.length := by
  have h : ∀ (ds : List ChangeT) (l : List (NameT × Nat)) (i : Nat), (∀ p ∈ l, p.2 < i) → ∀ p ∈ lastFrom l i ds, p.2 < i + ds.length := by
    intro ds
    induction ds with
    | nil => intro l i hl p hp; exact hl p hp
    | cons d ds ih =>
      intro l i hl p hp
      have := ih (aSet l d.name i) (i + 1) (fun q hq => by
        rcases aSet_mem _ _ _ hq with rfl | hq
        · exact Nat.lt_succ_self _
        · have := hl q hq; omega) p hp
      simp only [List.length_cons]
      omega
  intro p hp
  have := h cs [] 0 (fun p hp => by simp at hp) p hp
  omega
/-- Between two rounds. -/
structure WrI (w : World) (h : VH) (V : AV) (es : Array MapEntry) (clock : Nat) (gk : Nat) (v : Value) (wr : World) : Prop where
  ex : ∃ (seen : Array Nat) (c0 : Nat) (ps : List MapEntry), wr.heap[w.heap.size]? = some (.mapIter (some h.lm) clock seen c0) ∧ clock ≤ c0 ∧ seen.toList = ps.map (·.born) ∧ (∀ e ∈ ps, e ∈ es.toList) ∧ (ps.map (·.born)).Nodup ∧ (leftOf es seen).size ≤ gk ∧ ps.length ≤ es.size ∧
    wr.ownsRow (w.heap.size + 1) 61 7 v ps.length ((ps.map (chgOf V.calls)).flatMap changeCells)
  below : Below w.heap.size w wr
  lt : w.heap.size < wr.heap.size

theorem nodup_of_map {α β : Type} {f : α → β} {l : List α} (h : (l.map f).Nodup) : l.Nodup := (List.pairwise_map.1 h).imp fun hne e => hne (by rw [e])
theorem left_step {es : Array MapEntry} {seen : Array Nat} {e : MapEntry} (he : e ∈ (leftOf es seen).toList) : (leftOf es (seen.push e.born)).size < (leftOf es seen).size := by
  have h1 : (leftOf es (seen.push e.born)).toList = (leftOf es seen).toList.filter fun x => decide (x.born ≠ e.born) := by
    unfold leftOf
    simp only [Array.toList_filter, List.filter_filter]
    refine List.filter_congr fun x _ => ?_
    simp only [Array.contains_push]
    by_cases hx : x.born = e.born <;> simp [hx, Bool.and_comm]
  have h2 : (leftOf es (seen.push e.born)).size = ((leftOf es seen).toList.filter fun x => decide (x.born ≠ e.born)).length := by rw [← h1, Array.length_toList]
  have h3 : (leftOf es seen).size = (leftOf es seen).toList.length := by rw [Array.length_toList]
  rw [h2, h3]
  refine List.length_filter_lt_length_iff_exists.2 ⟨e, he, by simp⟩
theorem left_in {es : Array MapEntry} {seen : Array Nat} {e : MapEntry} (he : e ∈ (leftOf es seen).toList) : e ∈ es.toList ∧ e.born ∉ seen.toList := by
  unfold leftOf at he
  simp at he ⊢
  exact he
theorem left_done {es : Array MapEntry} {seen : Array Nat} {ps : List MapEntry} {clock : Nat} (hst : Stamps es clock) (h0 : (leftOf es seen).size = 0) (hs : seen.toList = ps.map (·.born)) (hin : ∀ e ∈ ps, e ∈ es.toList) (hnd : (ps.map (·.born)).Nodup) : ps.Perm es.toList := by
  have hinj : ∀ x ∈ es.toList, ∀ y ∈ es.toList, x.born = y.born → x = y := by
    intro x hx y hy hb
    obtain ⟨i, hi, rfl⟩ := List.mem_iff_getElem.1 hx
    obtain ⟨j, hj, rfl⟩ := List.mem_iff_getElem.1 hy
    have hij : i = j := by
      have h1 : (es.toList.map (·.born))[i]'(by simpa using hi) = (es.toList.map (·.born))[j]'(by simpa using hj) := by simpa using hb
      have := (List.getElem_inj hst.1).1 h1
      exact this
    subst hij
    rfl
  have hps : ps.Nodup := nodup_of_map hnd
  have hes : es.toList.Nodup := nodup_of_map hst.1
  refine (List.perm_ext_iff_of_nodup hps hes).2 fun e => ⟨hin e, fun he => ?_⟩
  have hseen : e.born ∈ seen.toList := by
    by_cases hc : e.born ∈ seen.toList
    · exact hc
    · exfalso
      have : e ∈ (leftOf es seen).toList := by
        unfold leftOf
        simp at he hc ⊢
        exact ⟨he, hc⟩
      have h1 : (leftOf es seen).toList = [] := by
        apply List.eq_nil_of_length_eq_zero
        rw [Array.length_toList]; exact h0
      rw [h1] at this
      simp at this
  rw [hs] at hseen
  obtain ⟨x, hx, hb⟩ := List.mem_map.1 hseen
  rw [← hinj x (hin x hx) e he hb]
  exact hx
end Go.Proofs.YtfchfjipkggnkaaGreatDoor
