/- slices.Backward at rows of nodes: its contract for a range. -/
import Derived.RangeFuncNested
import Derived.RangeFuncBound
import Derived.RangeFuncCalls
import Derived.RangeFuncLeaves
import Derived.Shelf.Abstract
import Derived.Shelf.RegionOpen
import Derived.WalkKit
import Derived.OwnWalkIn
import Derived.TacticsInMore
import Derived.LoopNIn
import Derived.LoopIn
import Derived.Test.YteiddebjbiadbaaGmG
namespace Go.Proofs.Yteiddebjbiadbaa
open Go.RowKit Go.Shelf Gr
attribute [local go_sem] Oper.semAt_some

/-- A node and its place. -/
abbrev NdI (n : Nat) := Nat × { x : Nat // x < n }
def encI {n : Nat} (x : NdI n) : Array Value := #[.int .i64 (x.1 : Int), .int .i64 (x.2.1 : Int)]
/-- What a round keeps: the box, and the row. -/
def KpB (Bs : Nat) (v : Value) (W W' : World) : Prop := W.heap.size ≤ W'.heap.size ∧ ∀ k, k = Bs ∨ v.ownBlock = some k → k < W.heap.size → W'.heap[k]? = W.heap[k]?
theorem KpB.refl (Bs : Nat) (v : Value) (W : World) : KpB Bs v W W := ⟨Nat.le_refl _, fun _ _ _ => rfl⟩
theorem KpB.trans {Bs : Nat} {v : Value} {A B C : World} (h : KpB Bs v A B) (k : KpB Bs v B C) : KpB Bs v A C := ⟨Nat.le_trans h.1 k.1, fun j hj hl => (k.2 j hj (Nat.lt_of_lt_of_le hl h.1)).trans (h.2 j hj hl)⟩
theorem RowK.keptB {α : Type} {K : KindK α} {w w' : World} {v : Value} {xs : List α} (h : RowK K w v xs) (hk : ∀ k, v.ownBlock = some k → w'.heap[k]? = w.heap[k]?) : RowK K w' v xs := by
  rcases h with h | ⟨g, off, c, rfl, hc, hx⟩
  · exact .inl h
  · exact .inr ⟨g, off, c, rfl, hc, fun j x hj i u hu => (World.cell?_of_block (a := ⟨g, off + j * K.S + i, none⟩) (hk g rfl)).trans (hx j x hj i u hu)⟩
set_option maxRecDepth 100000 in
set_option maxHeartbeats 2000000 in
theorem backward1_in (F : Fence) (m : Nat) (hf : F.fn 65) (hro : F.round = none) (hm : 1 ≤ m) (l Bs n : Nat) (v : Value) (ls : List { x : Nat // x < n }) (hlen : ls.length ≤ 4096) (J Jx : List (NdI n) → World → Prop)
    (hY : ∀ pre x W, J pre W → pre.length < ls.length → YieldAt F (m - 1) Try.prog l (encI x) W fun e W' =>
      (e = .returned (.bool true) ∧ J (pre ++ [x]) W' ∧ KpB Bs v W W') ∨ (e = .returned (.bool false) ∧ Jx (pre ++ [x]) W'))
    (W : World) (hBs : W.cell? ⟨Bs, 0, none⟩ = some v) (hr : RowK kNat W v (ls.map (·.1))) (hbl : ∀ k, v.ownBlock = some k → k < W.heap.size) (h0 : J [] W) :
    CallsIn F m Try.prog 65 #[.func (.yield l) #[] #[], .pointer (some ⟨Bs, 0, none⟩)] W fun e W' => (∃ v, e = .returned v) ∧
      ((∃ ys, ys.map (·.2) = ls.reverse ∧ J ys W') ∨ (∃ pre, True ∧ Jx pre W')) := by
  obtain ⟨a, c, rfl, -⟩ := hr.form
  rw [List.length_map] at hr hBs hbl
  refine callsIn_of_wp Try.func65 rfl hf ?_ hro
  simp only [Try.ntmps65, List.size_toArray, List.length_cons, List.length_nil, Nat.reduceAdd, Nat.reduceSub, Array.replicate_succ, Array.replicate_zero, List.push_toArray, List.append_toArray, List.nil_append, List.cons_append]
  rw [List.length_map] at *
  gi_wp2
  gi_loopw [3] (fun iv wr => ∃ (k : Nat) (pre : List (NdI n)), k ≤ ls.length ∧ iv = .int .i64 ((ls.length : Int) - 1 - k) ∧ pre.map (·.2) = ls.reverse.take k ∧ J pre wr ∧ KpB Bs (.slice a ls.length c) W wr)
    (fun iv _ => (intOf iv + 1).toNat)
  case atStart => exact ⟨0, [], Nat.zero_le _, by simp, rfl, h0, KpB.refl _ _ _⟩
  case round =>
    obtain ⟨k, pre, hk, rfl, hp, hJ, hK⟩ := hrel
    by_cases hlt : k < ls.length
    · obtain ⟨i, hi⟩ : ∃ i : Nat, i + k + 1 = ls.length := ⟨ls.length - k - 1, by omega⟩
      have hii : (ls.length : Int) - 1 - k = (i : Int) := by omega
      rw [hii]
      obtain ⟨x, hx⟩ : ∃ x, ls[i]? = some x := ⟨_, List.getElem?_eq_getElem (by omega)⟩
      have hpl : pre.length = k := by have := congrArg List.length hp; simpa [Nat.min_eq_left hk] using this
      have hp2 : (pre ++ [((i, x) : NdI n)]).map (·.2) = ls.reverse.take (k + 1) := by
        rw [List.map_append, hp, List.take_add_one, List.getElem?_reverse (by omega), show ls.length - 1 - k = i by omega, hx]; rfl
      obtain ⟨fn, tmps, assign, body, hy, hR⟩ := hY pre (i, x) wr hJ (by omega)
      unfold encI at hy
      dsimp only at hy
      have d0 := (World.cell?_of_block (a := ⟨Bs, 0, none⟩) (hK.2 Bs (.inl rfl) (World.block_lt_of_cell? W _ hBs))).trans hBs
      obtain ⟨g, off, rfl, hca⟩ := (hr.keptB (fun k hk => hK.2 k (.inr hk) (hbl k hk))).at_ (j := i) (x := x.1) (by rw [List.getElem?_map, hx]; rfl)
      have d1 := hca 0 _ rfl
      simp only [kNat, Nat.mul_one, Nat.add_zero] at d1
      have hil : (i : Int) < (ls.length : Int) := by omega
      have his : i ≤ 4096 := by omega
      clear hca hx hr hBs hii
      gi_wp2
      refine hR.mono ?_
      rintro e W3 (⟨rfl, hJ3, hk3⟩ | ⟨rfl, hJx3⟩)
      · gi_wp2
        go_roundw
        case rel => exact ⟨k + 1, _, by omega, by congr 1; omega, hp2, hJ3, hK.trans hk3⟩
        case measure => simp [intOf]
      · gi_wp2
        refine bodyPost_ret (results_none rfl _ _ _) rfl ?_
        exact ⟨⟨_, rfl⟩, .inr ⟨_, trivial, hJx3⟩⟩
    · have hkl : k = ls.length := by omega
      have hii : (ls.length : Int) - 1 - k = -1 := by omega
      rw [hii]
      gi_wp2
      go_end0
      exact ⟨⟨_, rfl⟩, .inl ⟨pre, by rw [hp, List.take_of_length_le (by simp; omega)], hJ⟩⟩
theorem backward_in (F : Fence) (m : Nat) (hf : F.fn 50) (hro : F.round = none) (a : Option Addr) (k c : Nat) (w : World) :
    CallsIn F m Try.prog 50 #[.slice a k c] w fun e w' => e = .returned (.func (.func 65) #[] #[.pointer (some ⟨w.heap.size, 0, none⟩)]) ∧ w' = w.alloc (.cells #[.slice a k c] 30) := by
  refine callsIn_of_wp Try.func50 rfl hf ?_ hro
  simp only [Try.ntmps50, List.size_toArray, List.length_cons, List.length_nil, Nat.reduceAdd, Nat.reduceSub, Array.replicate_succ, Array.replicate_zero, List.push_toArray, List.append_toArray, List.nil_append, List.cons_append]
  gi_wp2
  go_ret
  exact ⟨rfl, rfl⟩
theorem backward_stops (F : Fence) (m : Nat) (hf : F.fn 65) (hro : F.round = none) (hm : 1 ≤ m) (Bs n : Nat) (v : Value) (ls : List { x : Nat // x < n }) (hlen : ls.length ≤ 4096) (w : World) (hBs : RowIs w Bs 30 [v]) (hr : RowK kNat w v (ls.map (·.1)))
    (hv : ∀ k, v.ownBlock = some k → k < w.heap.size) :
    SeqStopsK F m Try.prog 65 #[.pointer (some ⟨Bs, 0, none⟩)] (encI (n := n)) (KpB Bs v) (fun ys => ys.map (·.2) = ls.reverse) (fun _ => True) ls.length w := fun l J Jx W hW _ _ hY h0 =>
  backward1_in F m hf hro hm l Bs n v ls hlen J Jx hY W ((hBs.later hW).cell (i := 0) rfl) (hr.keptB (fun k hk => hW.block k (hv k hk))) (fun k hk => Nat.lt_of_lt_of_le (hv k hk) hW.size) h0
end Go.Proofs.Yteiddebjbiadbaa
