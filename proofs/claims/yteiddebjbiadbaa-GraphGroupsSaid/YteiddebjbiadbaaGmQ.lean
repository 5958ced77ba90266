/- A slice of nodes that was cut at its front, and append upon it. (turned from PorZ) -/
import Derived.Test.YteiddebjbiadbaaGmA
import Derived.Laws.CopyRow
import Derived.Laws.Append
import Derived.Deep.AppendLies
import Derived.Lib.AppendStr
namespace Go.Proofs.Yteiddebjbiadbaa
open Go.RowKit

def natCells (x : Nat) : List Value := [.int .i64 (x : Int)]
/-- A slice of nodes, anywhere in a block of numbers, whose spare room is its own. -/
def IWin (w : World) (v : Value) (ls : List Nat) : Prop :=
  (v = .slice none 0 0 ∧ ls = []) ∨ ∃ g off cap cur, v = .slice (some ⟨g, off, none⟩) ls.length cap ∧ w.heap[g]? = some (.cells cur 3 (0, 0)) ∧ ls.length ≤ cap ∧ cap ≤ maxLen ∧ off + cap * 1 ≤ cur.size ∧ (cur.toList.drop off).take (ls.length * 1) = ls.flatMap natCells
theorem IWin.nil (w : World) : IWin w (.slice none 0 0) [] := .inl ⟨rfl, rfl⟩
theorem nats_flat_length (ls : List Nat) : (ls.flatMap natCells).length = ls.length * 1 := by
  induction ls with
  | nil => rfl
  | cons x r ih => simp only [List.flatMap_cons, List.length_append, List.length_cons, ih, natCells, List.length_nil]; omega
theorem win_cells {w : World} {g off : Nat} {cur : Array Value} {ls : List Nat} (hg : w.heap[g]? = some (.cells cur 3 (0, 0))) (ht : (cur.toList.drop off).take (ls.length * 1) = ls.flatMap natCells) :
    ∀ j u, (ls.flatMap natCells)[j]? = some u → w.cell? ((⟨g, off, none⟩ : Addr).add j) = some u := by
  intro j u hu
  rw [Addr.add_lit, cell_of_row w g (off + j) cur _ _ hg]
  rw [← ht, List.getElem?_take] at hu
  split at hu
  · rw [List.getElem?_drop] at hu
    simpa using hu
  · cases hu
theorem IWin.at_ {w : World} {a : Option Addr} {n c : Nat} {ls : List Nat} (h : IWin w (.slice a n c) ls) {j x : Nat} (hj : ls[j]? = some x) : ∃ g off, a = some ⟨g, off, none⟩ ∧ w.cell? ⟨g, off + j, none⟩ = some (.int .i64 (x : Int)) := by
  rcases h with ⟨hv, rfl⟩ | ⟨g, off, cap, cur, hv, hg, hle, _, _, ht⟩
  · simp at hj
  · simp only [Value.slice.injEq] at hv
    obtain ⟨rfl, rfl, rfl⟩ := hv
    refine ⟨g, off, rfl, ?_⟩
    have h0 := win_cells hg ht j (.int .i64 (x : Int)) (by
      have : ls.flatMap natCells = ls.map (fun x : Nat => Value.int .i64 (x : Int)) := by clear ht hle hj; induction ls with | nil => rfl | cons y r ih => simp only [List.flatMap_cons, List.map_cons, ih]; rfl
      rw [this, List.getElem?_map, hj]; rfl)
    rw [Addr.add_lit] at h0
    exact h0
theorem IWin.form {w : World} {v : Value} {ls : List Nat} (h : IWin w v ls) : ∃ a c, v = .slice a ls.length c ∧ ls.length ≤ c := by
  rcases h with ⟨rfl, rfl⟩ | ⟨g, off, cap, cur, rfl, _, hle, _⟩
  · exact ⟨none, 0, rfl, Nat.le_refl _⟩
  · exact ⟨_, cap, rfl, hle⟩
theorem IWin.kept {w w' : World} {v : Value} {ls : List Nat} (h : IWin w v ls) (hk : ∀ k, v.ownBlock = some k → w'.heap[k]? = w.heap[k]?) : IWin w' v ls := by
  rcases h with h | ⟨g, off, cap, cur, rfl, hg, rest⟩
  · exact .inl h
  · exact .inr ⟨g, off, cap, cur, rfl, (hk g rfl).trans hg, rest⟩
theorem IWin.lt {w : World} {v : Value} {ls : List Nat} (h : IWin w v ls) : ∀ k, v.ownBlock = some k → k < w.heap.size := by
  intro k hk
  rcases h with ⟨rfl, _⟩ | ⟨g, off, cap, cur, rfl, hg, _⟩
  · cases hk
  · simp [Value.ownBlock] at hk
    subst hk
    exact lt_of_heap hg
theorem IWin.tail {w : World} {g off n c : Nat} {ls : List Nat} (h : IWin w (.slice (some ⟨g, off, none⟩) n c) ls) (h0 : 0 < n) : IWin w (.slice (some ⟨g, off + 1, none⟩) (n - 1) (c - 1)) (ls.drop 1) ∧ (c = 1 → IWin w (.slice (some ⟨g, off, none⟩) 0 0) (ls.drop 1)) := by
  rcases h with ⟨hv, _⟩ | ⟨g', off', cap, cur, hv, hg, hle, hm, hsz, ht⟩
  · cases hv
  · simp only [Value.slice.injEq, Option.some.injEq, Addr.mk.injEq] at hv
    obtain ⟨⟨rfl, rfl, _⟩, rfl, rfl⟩ := hv
    cases ls with
    | nil => simp at h0
    | cons x r =>
      simp only [List.length_cons, List.flatMap_cons] at ht hle hsz hm h0 ⊢
      have hpl : (natCells x).length = 1 := rfl
      have htr : (cur.toList.drop (off + 1)).take (r.length * 1) = r.flatMap natCells := by
        have h1 := congrArg (List.drop 1) ht
        rw [List.drop_take, List.drop_drop, List.drop_append, hpl] at h1
        simp only [Nat.sub_self, List.drop_zero] at h1
        rw [show (natCells x).drop 1 = [] from rfl, List.nil_append] at h1
        rw [← h1]
        congr 1
        try omega
      refine ⟨.inr ⟨g, off + 1, c - 1, cur, by simp, hg, by simp; omega, by omega, by omega, by simpa using htr⟩, fun hc => ?_⟩
      subst hc
      have hr : r = [] := List.eq_nil_of_length_eq_zero (by omega)
      subst hr
      exact .inr ⟨g, off, 0, cur, rfl, hg, Nat.le_refl _, Nat.zero_le _, by omega, rfl⟩

set_option maxRecDepth 100000 in
/-- append of one packet upon such a slice. -/
theorem run_append_win (w : World) (ty : TypeId) (v : Value) (ls : List Nat) (h : IWin w v ls) (c : Nat) (B : Nat) (hB : w.heap[B]? = some (.cells #[.int .i64 (c : Int)] 3 (0, 0))) (hlen : ls.length ≤ 1000000) :
    ∃ v' w', (Builtin.append_ #[30, 30] ty #[v, .slice (some ⟨B, 0, none⟩) 1 1]).run Try.prog w = .ok v' w' ∧ IWin w' v' (ls ++ [c]) ∧ w.grownBy w' v.ownBlock ∧ (v'.ownBlock = v.ownBlock ∨ v'.ownBlock = some w.heap.size) := by
  obtain ⟨i0, hi, hz0, hz1, hz2⟩ := info_parts (show (Try.prog.info? 3).map (fun i => (i.zero, i.size, i.bytes)) = some (some (.int .i64 0), 1, 8) from kNat.info)
  have hnl : (natCells c).length = 1 * i0.size := by rw [hz1]; rfl
  have hnews : ∀ j u, (natCells c)[j]? = some u → w.cell? ((⟨B, 0, none⟩ : Addr).add j) = some u := World.news_of_block hB
  have h1 : ∀ u ∈ natCells c, u.oneCell' = true := by simp [natCells, Value.oneCell']
  have hpc : (natCells c).length = 1 := rfl
  have hzc : (Value.int .i64 0).cells.size = 1 := rfl
  rcases h with ⟨rfl, rfl⟩ | ⟨g, off, cap, cur, rfl, hg, hle, hm, hsz, ht⟩
  · have hr := run_append_nil (P := Try.prog) w 30 ty 3 i0 _ Try.underlying30 hi hz0 ⟨B, 0, none⟩ 1 1 (natCells c) hnl hnews (by decide) (by decide) (by rw [hz2]; decide)
    have hge := grownCap_ge w 1 0 3
    refine ⟨_, _, hr, .inr ⟨w.heap.size, 0, _, _, rfl, heap_alloc_new w.drew _, by simpa using hge, grownCap_le_maxLen w 1 0 _ (by unfold maxLen; decide), ?_, ?_⟩, ⟨rfl, rfl, rfl, by simp, fun k hk _ => heap_alloc_old w.drew _ hk⟩, .inr rfl⟩
    · simp only [Array.size_append, List.size_toArray, size_zeroCells, hpc, hzc]
      omega
    · simp [natCells]
  · by_cases hroom : ls.length + 1 ≤ cap
    · have hf := run_firstCells_some (P := Try.prog) w i0.size 1 ⟨B, 0, none⟩ 1 1 (natCells c) hnl hnews
      have hst := run_storeCells_at Try.prog g (off + ls.length * i0.size) 3 (natCells c) 0 cur w hg (by rw [hz1]; show off + ls.length * 1 + 0 + 1 ≤ _; omega) h1
      simp only [Nat.add_zero] at hst
      have hr : (Builtin.append_ #[30, 30] ty #[.slice (some ⟨g, off, none⟩) ls.length cap, .slice (some ⟨B, 0, none⟩) 1 1]).run Try.prog w = .ok (.slice (some ⟨g, off, none⟩) (ls.length + 1) cap) (w.setRow g (cur.toList.take (off + ls.length * i0.size) ++ natCells c ++ cur.toList.drop (off + ls.length * i0.size + (natCells c).length)).toArray) := by
        simp [Builtin.append_, run_underlying Try.underlying30, sizeOf, typeInfo, hi, Builtin.lenOf, hroom, hf, Addr.add_lit, hst]
      refine ⟨_, _, hr, .inr ⟨g, off, cap, _, by simp, setRow_heap w g cur _ _ _ hg, by simpa using hroom, hm, ?_, ?_⟩, ⟨rfl, rfl, rfl, by simp, fun k _ hk => setRow_other w g k _ (fun e => hk (by simp [Value.ownBlock, e]))⟩, .inl rfl⟩
      · have hpl : (natCells c).length = 1 := rfl
        simp only [List.size_toArray, List.length_append, List.length_take, List.length_drop, Array.length_toList, hpl, hz1]
        omega
      · rw [hz1]
        have hpl : (natCells c).length = 1 := rfl
        have htk : (cur.toList.take (off + ls.length * 1)).length = off + ls.length * 1 := by simp; omega
        have hdt : (cur.toList.take (off + ls.length * 1)).drop off = ls.flatMap natCells := by
          rw [← ht, List.drop_take]
          congr 1
          omega
        show ((cur.toList.take (off + ls.length * 1) ++ natCells c ++ cur.toList.drop _).drop off).take ((ls ++ [c]).length * 1) = _
        rw [List.append_assoc, List.drop_append, htk, hdt, show off - (off + ls.length * 1) = 0 by omega, List.drop_zero, ← List.append_assoc]
        have hl2 : (ls.flatMap natCells ++ natCells c).length = (ls ++ [c]).length * 1 := by rw [List.length_append, nats_flat_length, hpl]; simp
        rw [← hl2, List.take_left]
        simp
    · have hol : (ls.flatMap natCells).length = ls.length * i0.size := by rw [hz1]; exact nats_flat_length ls
      have hr := run_append_grow (P := Try.prog) w 30 ty 3 i0 _ Try.underlying30 hi hz0 ⟨g, off, none⟩ ls.length cap (ls.flatMap natCells) hol (win_cells hg ht) ⟨B, 0, none⟩ 1 1 (natCells c) hnl hnews (by omega) (by omega) (growslice_fits (by omega) (by rw [hz2]; omega))
      have hge := grownCap_ge w (ls.length + 1) cap 3
      refine ⟨_, _, hr, .inr ⟨w.heap.size, 0, grownCap w (ls.length + 1) cap 3, _, by simp, heap_alloc_new w.drew _, by simpa using hge, grownCap_le_maxLen w (ls.length + 1) cap _ (by unfold maxLen; omega), ?_, ?_⟩, ⟨rfl, rfl, rfl, by simp, fun k hk _ => heap_alloc_old w.drew _ hk⟩, .inr rfl⟩
      · rw [hz1] at hol
        simp only [Array.size_append, List.size_toArray, size_zeroCells, hpc, hol, hzc]
        omega
      · have hpl : (natCells c).length = 1 := rfl
        have hl2 : (ls.flatMap natCells ++ natCells c).length = (ls ++ [c]).length * 1 := by rw [List.length_append, nats_flat_length, hpl]; simp
        simp only [List.drop_zero, Array.toList_append]
        rw [← hl2]
        show (ls.flatMap natCells ++ natCells c ++ _).take _ = _
        rw [List.take_left]
        simp
theorem wpList_append_win {ops : Array Oper} {rest : List Oper} {o : Oper} {a : Act} {Q : Exit → Act → World → Prop} (hgd : o.guard = none) (s x : Operand)
    (ho : o.op = .call { callee := .builtin .append, args := #[s, x], argTypes := #[30, 30] }) {w : World} (v : Value) (ls : List Nat) (hs : a.eval s = v) (hrow : IWin w v ls)
    (c : Nat) (B : Nat) (hx : a.eval x = .slice (some ⟨B, 0, none⟩) 1 1) (hB : w.heap[B]? = some (.cells #[.int .i64 (c : Int)] 3 (0, 0))) (hlen : ls.length ≤ 1000000)
    (h : ∀ v' w', IWin w' v' (ls ++ [c]) → w.grownBy w' v.ownBlock → (v'.ownBlock = v.ownBlock ∨ v'.ownBlock = some w.heap.size) → wpList Try.prog ops Q rest (a.put o.dst v') w') :
    wpList Try.prog ops Q (o :: rest) a w := by
  refine wpList_plain hgd fun _ hK => ?_
  obtain ⟨v', w', hr, h2, h3, h4⟩ := run_append_win w o.type v ls hrow c B hB hlen
  unfold Oper.wp execOp
  simp only [ho, resolve, invoke, builtin, Sem.run_bind, Sem.run_pure, Result.andThen_ok, List.map_toArray, List.map_cons, List.map_nil, hs, hx, hr]
  exact hK _ _ (h v' w' h2 h3 h4)

end Go.Proofs.Yteiddebjbiadbaa
