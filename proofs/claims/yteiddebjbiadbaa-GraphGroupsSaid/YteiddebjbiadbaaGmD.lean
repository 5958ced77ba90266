/- graph: Edges. -/
import Derived.Test.YteiddebjbiadbaaGmW
namespace Go.Proofs.Yteiddebjbiadbaa
open Go.RowKit Gr
attribute [local go_sem ↓] Go.wp_at_zero Go.wp_at_succ

theorem edgesF_succ (A : Nat → List Nat) (i : Nat) : edgesF A (i + 1) = edgesF A i ++ (A i).map fun j => (i, j) := by
  unfold edgesF; rw [List.range_succ, List.flatMap_append]; simp
theorem edgesF_le (A : Nat → List Nat) {i n : Nat} (h : i ≤ n) : (edgesF A i).length ≤ (edgesF A n).length := by
  induction n with
  | zero => obtain rfl : i = 0 := by omega
            exact Nat.le_refl _
  | succ n ih =>
    rcases (by omega : i ≤ n ∨ i = n + 1) with q | q
    · rw [edgesF_succ, List.length_append]; exact Nat.le_trans (ih q) (Nat.le_add_right _ _)
    · rw [q]; exact Nat.le_refl _
/-- The edges of all nodes ahead of i, and the first j of i. -/
def edgP (A : Nat → List Nat) (i j : Nat) : List (Int × Int) := (edgesF A i ++ ((A i).take j).map fun m => (i, m)).map ofEd
theorem edgP_zero (A : Nat → List Nat) (i : Nat) : edgP A i 0 = (edgesF A i).map ofEd := by unfold edgP; simp
theorem edgP_all (A : Nat → List Nat) (i j : Nat) (h : (A i).length ≤ j) : edgP A i j = (edgesF A (i + 1)).map ofEd := by unfold edgP; rw [List.take_of_length_le h, edgesF_succ]
theorem edgP_succ (A : Nat → List Nat) {i j m : Nat} (h : (A i)[j]? = some m) : edgP A i (j + 1) = edgP A i j ++ [((i : Int), (m : Int))] := by
  unfold edgP; rw [List.take_add_one, h]; simp [ofEd]
theorem edgP_len (A : Nat → List Nat) {i j n : Nat} (hi : i < n) : (edgP A i j).length ≤ (edgesF A n).length := by
  have h1 : (edgP A i j).length ≤ (edgesF A (i + 1)).length := by
    unfold edgP
    rw [edgesF_succ, List.length_map, List.length_append, List.length_append, List.length_map, List.length_map]
    have := List.length_take_le' (i := j) (l := A i)
    omega
  exact Nat.le_trans h1 (edgesF_le A hi)
set_option maxHeartbeats 1600000 in
theorem edges_any {w : World} {p n : Nat} {A B : Nat → List Nat} (h : GOk w p n A B) (hL : (edgesF A n).length ≤ 100000) : Calls Try.prog 25 #[.pointer (some ⟨p, 0, none⟩)] w fun r w' => ∃ v, r = .returned v ∧ OwnK kEdge w.heap.size w' v ((edgesF A n).map ofEd) ∧ Below w.heap.size w w' := by
  obtain ⟨hn, ga, gb, c0, -, hra, -⟩ := h.at_
  have H := Lib.hid h
  have Hra := Lib.hid hra
  have HL := Lib.hid hL
  clear h hra hL
  go_enter Try.func25, Try.ntmps25
  go_wp2
  go_loopg [3, 15] n (fun gk vt iv wr => ∃ i : Nat, Hid (i + gk = n) ∧ iv = .int .i64 i ∧ Hid (OwnK kEdge w.heap.size wr vt (edgP A i 0)) ∧ Hid (Below w.heap.size w wr))
  case atStart => exact ⟨0, Nat.zero_add _, rfl, by rw [edgP_zero]; exact OwnK.nil _ _, Below.refl _ _⟩
  case round =>
    obtain ⟨i, Hi, rfl, HO, HB⟩ := hrel
    by_cases hlt : i < n
    · obtain ⟨vr, hv1, hv2⟩ := Hra.out i hlt
      obtain ⟨ra, rc, rfl, -⟩ := hv2.form
      have d1 := cellL hv1 HB.out
      have Hrow := Lib.hid hv2
      have hii : (i : Int) < (n : Int) := by omega
      have Hlt := Lib.hid hlt
      have hax := H.out.la i
      clear hv1 hv2 hlt
      go_wp2
      go_loopg [3, 22] (A i).length (fun gj vt jv wr2 => ∃ j : Nat, Hid (j + gj = (A i).length) ∧ jv = .int .i64 j ∧ Hid (OwnK kEdge w.heap.size wr2 vt (edgP A i j)) ∧ Hid (Below w.heap.size w wr2))
      case atStart => exact ⟨0, Nat.zero_add _, rfl, HO, HB⟩
      case round =>
        clear HO HB d1
        obtain ⟨j, Hj, rfl, HO, HB⟩ := hrel
        by_cases hjl : j < (A i).length
        · obtain ⟨m, hm⟩ : ∃ m, (A i)[j]? = some m := ⟨_, List.getElem?_eq_getElem hjl⟩
          obtain ⟨ag, ao, rfl, hca⟩ := (Hrow.out.later HB.out).at_ hm
          have d1 := hca 0 _ rfl
          simp only [kNat, Nat.mul_one, Nat.add_zero] at d1
          have hst := edgP_succ A hm
          have hll := edgP_len A (j := j) Hlt.out
          have Hst := Lib.hid hst
          have Hll : Hid ((edgP A i j).length + 1 ≤ 1000000) := by have := HL.out; show _ ≤ _; omega
          have hji : (j : Int) < ((A i).length : Int) := by omega
          have hjs : j < 4096 := by omega
          have Hjl := Lib.hid hjl
          clear hst hll hjl hca hm
          go_wp2_with (first
            | (at_builtin; refine wpList_append_one (K := kEdge) rfl _ _ rfl w.heap.size _ (edgP A i j) rfl HO.out ((i : Int), (m : Int)) _ _ rfl rfl Hll.out HB.out.size ?_; intro v9 w9 ho9 hg9 hat9; have HO9 := Lib.hid ho9; have HB9 : Hid (Below w.heap.size w w9) := OwnK.below HO.out hg9 HB.out (Nat.le_refl _); clear ho9 hg9 hat9)
            | go_in)
          go_roundg ((A i).length - (j + 1))
          case measure => have := Hj.out; have := Hjl.out; omega
          case rel => exact ⟨j + 1, by have := Hj.out; have := Hjl.out; show _ = _; omega, by go_num, by rw [Hst.out]; exact HO9, HB9⟩
        · have hji : ¬ (j : Int) < ((A i).length : Int) := by omega
          have he : edgP A i j = edgP A (i + 1) 0 := by rw [edgP_all A i j (by omega), edgP_zero]
          rw [he] at HO
          go_wp2
          go_roundg (n - (i + 1))
          case measure => have := Hi.out; have := Hlt.out; omega
          case rel => exact ⟨i + 1, by have := Hi.out; have := Hlt.out; show _ = _; omega, by go_num, HO, HB⟩
    · have hii : ¬ (i : Int) < (n : Int) := by omega
      obtain rfl : n = i := by have := Hi.out; omega
      rw [edgP_zero] at HO
      go_wp2
      go_ret
      exact ⟨_, rfl, HO.out, HB.out⟩
end Go.Proofs.Yteiddebjbiadbaa
