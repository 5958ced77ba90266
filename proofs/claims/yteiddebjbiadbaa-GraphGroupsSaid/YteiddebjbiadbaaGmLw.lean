/- Contracts of After, Before, Has, Same as the laws use them. -/
import Derived.Test.YteiddebjbiadbaaGmLs
import Derived.Test.YteiddebjbiadbaaGmEq
import Derived.Test.YteiddebjbiadbaaGmQc
import Derived.Test.YteiddebjbiadbaaGmD
import Derived.Test.YteiddebjbiadbaaGmE
namespace Go.Proofs.Yteiddebjbiadbaa
open Go.RowKit Gr

/-- It hands back a row of numbers. -/
def RowR (l : List Int) (w : World) (r : Ending) (w' : World) : Prop := ∃ v, r = .returned v ∧ RowK kInt w' v l ∧ Below w.heap.size w w'
def IsB (b : Bool) (w : World) (r : Ending) (w' : World) : Prop := r = .returned (.bool b) ∧ Below w.heap.size w w'
theorem aftI_none {n : Nat} {es : List Ed} (hin : Ins n es) {x : Int} (h : nodeB n x = false) : aftI (es.map ofEd) x = [] := by
  unfold aftI
  rw [List.filter_eq_nil_iff.2, List.map_nil]
  intro e he
  obtain ⟨y, hy, rfl⟩ := List.mem_map.1 he
  have := (hin y hy).1
  intro q
  have q := of_decide_eq_true q
  have : nodeB n x = true := nodeB_iff.2 (by rw [← q]; unfold ofEd; dsimp only; omega)
  rw [h] at this; cases this
theorem befI_none {n : Nat} {es : List Ed} (hin : Ins n es) {x : Int} (h : nodeB n x = false) : befI (es.map ofEd) x = [] := by
  unfold befI
  rw [List.filter_eq_nil_iff.2, List.map_nil]
  intro e he
  obtain ⟨y, hy, rfl⟩ := List.mem_map.1 he
  have := (hin y hy).2
  intro q
  have q := of_decide_eq_true q
  have : nodeB n x = true := nodeB_iff.2 (by rw [← q]; unfold ofEd; dsimp only; omega)
  rw [h] at this; cases this
theorem after_r {w : World} {n p : Nat} {es : List Ed} (h : GOk w p n (aft es) (bef es)) (hin : Ins n es) (x : Int) : Calls Try.prog 30 #[.pointer (some ⟨p, 0, none⟩), .int .i64 x] w (RowR (aftI (es.map ofEd) x) w) := by
  refine (gAfter_any h x).mono ?_
  rintro r w' ⟨hb, ⟨q, rfl⟩ | ⟨a, rfl, ha, v, rfl, ho⟩⟩
  · rw [aftI_none hin q]; exact ⟨_, rfl, RowK.nil _, hb⟩
  · rw [aftI_ints]; exact ⟨v, rfl, row_ints.1 ho.row, hb⟩
theorem before_r {w : World} {n p : Nat} {es : List Ed} (h : GOk w p n (aft es) (bef es)) (hin : Ins n es) (x : Int) : Calls Try.prog 32 #[.pointer (some ⟨p, 0, none⟩), .int .i64 x] w (RowR (befI (es.map ofEd) x) w) := by
  refine (gBefore_any h x).mono ?_
  rintro r w' ⟨hb, ⟨q, rfl⟩ | ⟨a, rfl, ha, v, rfl, ho⟩⟩
  · rw [befI_none hin q]; exact ⟨_, rfl, RowK.nil _, hb⟩
  · rw [befI_ints]; exact ⟨v, rfl, row_ints.1 ho.row, hb⟩
theorem rafter_r {w : World} {n : Int} {v : Value} {es : List Ed} (h : RowK kE w v (es.map ofEd)) (hl : es.length ≤ 100000) (x : Int) : Calls Try.prog 31 #[.agg #[.int .i64 n, v], .int .i64 x] w (RowR (aftI (es.map ofEd) x) w) := by
  refine (rAfter_any h (by rw [List.length_map]; exact hl) x).mono ?_
  rintro r w' ⟨v', rfl, ho, hb⟩
  exact ⟨v', rfl, ho.row, hb⟩
theorem rbefore_r {w : World} {n : Int} {v : Value} {es : List Ed} (h : RowK kE w v (es.map ofEd)) (hl : es.length ≤ 100000) (x : Int) : Calls Try.prog 33 #[.agg #[.int .i64 n, v], .int .i64 x] w (RowR (befI (es.map ofEd) x) w) := by
  refine (rBefore_any h (by rw [List.length_map]; exact hl) x).mono ?_
  rintro r w' ⟨v', rfl, ho, hb⟩
  exact ⟨v', rfl, ho.row, hb⟩
theorem same_i {w : World} {va vb : Value} {l : List Int} (ha : RowK kInt w va l) (hb : RowK kInt w vb l) (hs : l.length ≤ 1000000) : Calls Try.prog 15 #[va, vb] w (IsB true w) := by
  refine (same_any ha hb hs).mono ?_
  rintro r w' ⟨rfl, h2⟩
  exact ⟨by simp, h2⟩
theorem aftI_le (es : List (Int × Int)) (x : Int) : (aftI es x).length ≤ es.length := by unfold aftI; rw [List.length_map]; exact List.length_filter_le _ _
theorem befI_le (es : List (Int × Int)) (x : Int) : (befI es x).length ≤ es.length := by unfold befI; rw [List.length_map]; exact List.length_filter_le _ _
/-- Has, at a graph of sorted edges. -/
def hasB (n : Nat) (es : List Ed) (x y : Int) : Bool := nodeB n x && decide (y ∈ ints (aft es x.toNat))
theorem has_r {w : World} {n p : Nat} {es : List Ed} (h : GOk w p n (aft es) (bef es)) (hs : Norm es) (x y : Int) : Calls Try.prog 28 #[.pointer (some ⟨p, 0, none⟩), .int .i64 x, .int .i64 y] w (IsB (hasB n es x y) w) :=
  (hasEdge_any h (aft_sort hs) x y).mono (fun _ _ h => h)
theorem hasB_node {n : Nat} {es : List Ed} {a : Nat} (ha : a < n) (y : Int) : hasB n es (a : Int) y = decide (y ∈ aftI (es.map ofEd) (a : Int)) := by
  unfold hasB
  rw [nodeB_iff.2 (by omega), Bool.true_and, Int.toNat_natCast, aftI_ints]
theorem hasB_edge {n : Nat} {es : List Ed} (hin : Ins n es) {a b : Nat} : hasB n es (a : Int) (b : Int) = true ↔ (a, b) ∈ es := by
  unfold hasB
  rw [Bool.and_eq_true, decide_eq_true_iff, Int.toNat_natCast]
  unfold ints
  rw [List.mem_map]
  constructor
  · rintro ⟨_, c, hc, e⟩
    obtain rfl : c = b := by omega
    exact mem_aft.1 hc
  · intro h
    exact ⟨nodeB_iff.2 (by have := (hin _ h).1; dsimp only at this; omega), b, mem_aft.2 h, rfl⟩
theorem hasB_out {n : Nat} {es : List Ed} (hin : Ins n es) (x : Int) : hasB n es x (n : Int) = false := by
  unfold hasB
  rw [Bool.and_eq_false_iff]
  refine .inr (decide_eq_false (fun h => ?_))
  unfold ints at h
  obtain ⟨c, hc, e⟩ := List.mem_map.1 h
  have := (hin _ (mem_aft.1 hc)).2
  dsimp only at this
  omega
theorem hasB_neg (n : Nat) (es : List Ed) (y : Int) : hasB n es (-1) y = false := by
  unfold hasB
  have : nodeB n (-1) = false := by
    cases e : nodeB n (-1) with
    | false => rfl
    | true => have := nodeB_iff.1 e; omega
  rw [this]; rfl
theorem nodes_r {w : World} {p n : Nat} {A B : Nat → List Nat} (h : GAt w p n A B) : Calls Try.prog 23 #[.pointer (some ⟨p, 0, none⟩)] w fun r w' => r = .returned (.int .i64 n) ∧ Below w.heap.size w w' :=
  (nodes_any h).mono (fun _ _ q => ⟨q.1, by rw [q.2]; exact Below.refl _ _⟩)
end Go.Proofs.Yteiddebjbiadbaa
