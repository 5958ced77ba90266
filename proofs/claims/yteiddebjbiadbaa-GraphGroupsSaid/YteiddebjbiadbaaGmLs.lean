/- What the graph laws share. -/
import Derived.Test.YteiddebjbiadbaaGmMk
import Derived.Test.YteiddebjbiadbaaGmBt
namespace Go.Proofs.Yteiddebjbiadbaa
open Go.RowKit Gr

theorem seen_ref {es : List Ed} {n : Nat} (hin : Ins n es) (S : List Int) : seenL (reachedF (aft es) n (nodesF n S)) n = seenL (marksF es (n + 1) (startF n (nodesF n S))) n :=
  List.filter_congr (fun i hi => by rw [decide_eq_decide]; exact reached_marks hin nodes_lt (List.mem_range.1 hi))
theorem both_ref {es : List Ed} {n : Nat} (hin : Ins n es) (S T : List Int) : bothL (reachedF (aft es) n (nodesF n S)) (reachedF (bef es) n (nodesF n T)) n = bothL (marksF es (n + 1) (startF n (nodesF n S))) (marksF (refNew (turn es)) (n + 1) (startF n (nodesF n T))) n :=
  List.filter_congr (fun i hi => by
    have h1 := reached_marks hin (nodes_lt (S := S)) (List.mem_range.1 hi)
    have h2 := back_marks hin (nodes_lt (S := T)) (List.mem_range.1 hi)
    rw [Bool.eq_iff_iff, Bool.and_eq_true, Bool.and_eq_true, decide_eq_true_iff, decide_eq_true_iff, decide_eq_true_iff, decide_eq_true_iff, h1, h2])
theorem seen_len (g : List Nat) (n : Nat) : (seenL g n).length ≤ n := by unfold seenL; exact Nat.le_trans (List.length_filter_le _ _) (by simp)
theorem both_len (g h : List Nat) (n : Nat) : (bothL g h n).length ≤ n := by unfold bothL; exact Nat.le_trans (List.length_filter_le _ _) (by simp)
/-- Same at two equal lists of nodes. -/
theorem same_eq {W : World} {va vb : Value} {l : List Nat} (ha : RowK kNat W va l) (hb : RowK kNat W vb l) (hs : l.length ≤ 100000) : Calls Try.prog 15 #[va, vb] W fun r w' => r = .returned (.bool true) ∧ Below W.heap.size W w' := by
  refine (same_any (row_ints.1 ha) (row_ints.1 hb) (by unfold ints; rw [List.length_map]; omega)).mono ?_
  rintro r w' ⟨rfl, h2⟩
  exact ⟨by simp, h2⟩
theorem es_ges_of {es : List Ed} {n : Nat} (h : Ins n es) : GEs es n (aft es) (bef es) := ⟨fun _ _ => mem_aft, fun _ _ => mem_bef, h⟩
end Go.Proofs.Yteiddebjbiadbaa
