/- A slice of packets that was cut at its front, and append upon it. -/
import Derived.Test.YtalpkndlnfgjfaaDoorPorP
import Derived.Test.YtalpkndlnfgjfaaDoorPorS
import Derived.Test.YtalpkndlnfgjfaaDoorPorT
namespace Go.Proofs.YtalpkndlnfgjfaaDoor
open Go.RowKit

/-- A slice of packets, anywhere in a block of packets, whose spare room is its own. -/
def PWin (w : World) (v : Value) (ls : List PackT) : Prop :=
  (v = .slice none 0 0 ∧ ls = []) ∨ ∃ g off cap cur, v = .slice (some ⟨g, off, none⟩) ls.length cap ∧ w.heap[g]? = some (.cells cur 49 (0, 0)) ∧ ls.length ≤ cap ∧ cap ≤ maxLen ∧ off + cap * 2 ≤ cur.size ∧ (cur.toList.drop off).take (ls.length * 2) = ls.flatMap packCells
theorem PWin.nil (w : World) : PWin w (.slice none 0 0) [] := .inl ⟨rfl, rfl⟩
theorem packs_flat_length (ls : List PackT) : (ls.flatMap packCells).length = ls.length * 2 := by
  induction ls with
  | nil => rfl
  | cons x r ih => simp only [List.flatMap_cons, List.length_append, List.length_cons, ih, packCells, List.length_nil]; omega
theorem win_cells {w : World} {g off : Nat} {cur : Array Value} {ls : List PackT} (hg : w.heap[g]? = some (.cells cur 49 (0, 0))) (ht : (cur.toList.drop off).take (ls.length * 2) = ls.flatMap packCells) :
    ∀ j u, (ls.flatMap packCells)[j]? = some u → w.cell? ((⟨g, off, none⟩ : Addr).add j) = some u := by
  intro j u hu
  rw [Addr.add_lit, cell_of_row w g (off + j) cur _ _ hg]
  rw [← ht, List.getElem?_take] at hu
  split at hu
  · rw [List.getElem?_drop] at hu
    simpa using hu
  · cases hu
theorem PWin.sl {w : World} {a : Option Addr} {n c : Nat} {ls : List PackT} (h : PWin w (.slice a n c) ls) : PSl w a n ls ∧ n ≤ c := by
  rcases h with ⟨hv, rfl⟩ | ⟨g, off, cap, cur, hv, hg, hle, _, _, ht⟩
  · cases hv
    exact ⟨PSl.nil _, Nat.le_refl _⟩
  · simp only [Value.slice.injEq] at hv
    obtain ⟨rfl, rfl, rfl⟩ := hv
    refine ⟨⟨rfl, fun _ => ⟨g, off, rfl, fun j hj => ?_⟩⟩, hle⟩
    have hget : ls[j]? = some (ls.getD j zeroPk) := by rw [List.getD_eq_getElem?_getD, List.getElem?_eq_getElem hj]; rfl
    have h0 := win_cells hg ht (j * 2) (.string (ls.getD j zeroPk).src) (by have := pack_flat ls j 0 _ hget (by decide) (u := .string (ls.getD j zeroPk).src) rfl; simpa using this)
    have h1 := win_cells hg ht (j * 2 + 1) (.string (ls.getD j zeroPk).bytes) (pack_flat ls j 1 _ hget (by decide) (u := .string (ls.getD j zeroPk).bytes) rfl)
    rw [Addr.add_lit] at h0 h1
    exact ⟨h0, h1⟩
theorem PWin.form {w : World} {v : Value} {ls : List PackT} (h : PWin w v ls) : ∃ a c, v = .slice a ls.length c ∧ ls.length ≤ c := by
  rcases h with ⟨rfl, rfl⟩ | ⟨g, off, cap, cur, rfl, _, hle, _⟩
  · exact ⟨none, 0, rfl, Nat.le_refl _⟩
  · exact ⟨_, cap, rfl, hle⟩
theorem PWin.kept {w w' : World} {v : Value} {ls : List PackT} (h : PWin w v ls) (hk : ∀ k, v.ownBlock = some k → w'.heap[k]? = w.heap[k]?) : PWin w' v ls := by
  rcases h with h | ⟨g, off, cap, cur, rfl, hg, rest⟩
  · exact .inl h
  · exact .inr ⟨g, off, cap, cur, rfl, (hk g rfl).trans hg, rest⟩
theorem PWin.lt {w : World} {v : Value} {ls : List PackT} (h : PWin w v ls) : ∀ k, v.ownBlock = some k → k < w.heap.size := by
  intro k hk
  rcases h with ⟨rfl, _⟩ | ⟨g, off, cap, cur, rfl, hg, _⟩
  · cases hk
  · simp [Value.ownBlock] at hk
    subst hk
    exact lt_of_heap hg
theorem PWin.tail {w : World} {g off n c : Nat} {ls : List PackT} (h : PWin w (.slice (some ⟨g, off, none⟩) n c) ls) (h0 : 0 < n) : PWin w (.slice (some ⟨g, off + 2, none⟩) (n - 1) (c - 1)) (ls.drop 1) ∧ (c = 1 → PWin w (.slice (some ⟨g, off, none⟩) 0 0) (ls.drop 1)) := by
  rcases h with ⟨hv, _⟩ | ⟨g', off', cap, cur, hv, hg, hle, hm, hsz, ht⟩
  · cases hv
  · simp only [Value.slice.injEq, Option.some.injEq, Addr.mk.injEq] at hv
    obtain ⟨⟨rfl, rfl, _⟩, rfl, rfl⟩ := hv
    cases ls with
    | nil => simp at h0
    | cons x r =>
      simp only [List.length_cons, List.flatMap_cons] at ht hle hsz hm h0 ⊢
      have hpl : (packCells x).length = 2 := rfl
      have htr : (cur.toList.drop (off + 2)).take (r.length * 2) = r.flatMap packCells := by
        have h1 := congrArg (List.drop 2) ht
        rw [List.drop_take, List.drop_drop, List.drop_append, hpl] at h1
        simp only [Nat.sub_self, List.drop_zero] at h1
        rw [show (packCells x).drop 2 = [] from rfl, List.nil_append] at h1
        rw [← h1]
        congr 1
        omega
      refine ⟨.inr ⟨g, off + 2, c - 1, cur, by simp, hg, by simp; omega, by omega, by omega, by simpa using htr⟩, fun hc => ?_⟩
      subst hc
      have hr : r = [] := List.eq_nil_of_length_eq_zero (by omega)
      subst hr
      exact .inr ⟨g, off, 0, cur, rfl, hg, Nat.le_refl _, Nat.zero_le _, by omega, rfl⟩

set_option maxRecDepth 100000 in
/-- append of one packet upon such a slice. -/
theorem run_append_win (w : World) (ty : TypeId) (v : Value) (ls : List PackT) (h : PWin w v ls) (c : PackT) (B : Nat) (hB : w.heap[B]? = some (.cells #[.string c.src, .string c.bytes] 49 (0, 0))) (hlen : ls.length ≤ 1000000) :
    ∃ v' w', (Builtin.append_ #[23, 23] ty #[v, .slice (some ⟨B, 0, none⟩) 1 1]).run Tryd.prog w = .ok v' w' ∧ PWin w' v' (ls ++ [c]) ∧ w.grownBy w' v.ownBlock ∧ (v'.ownBlock = v.ownBlock ∨ v'.ownBlock = some w.heap.size) := by
  obtain ⟨i0, hi, hz0, hz1, hz2⟩ := info_parts Tryd.infoPack
  have hnl : (packCells c).length = 1 * i0.size := by rw [hz1]; rfl
  have hnews : ∀ j u, (packCells c)[j]? = some u → w.cell? ((⟨B, 0, none⟩ : Addr).add j) = some u := World.news_of_block hB
  have h1 : ∀ u ∈ packCells c, u.oneCell' = true := by simp [packCells, Value.oneCell']
  have hpc : (packCells c).length = 2 := rfl
  have hzc : (Value.agg #[.string ⟨#[]⟩, .string ⟨#[]⟩]).cells.size = 2 := rfl
  rcases h with ⟨rfl, rfl⟩ | ⟨g, off, cap, cur, rfl, hg, hle, hm, hsz, ht⟩
  · have hr := run_append_nil (P := Tryd.prog) w 23 ty 49 i0 _ Tryd.underlying23 hi hz0 ⟨B, 0, none⟩ 1 1 (packCells c) hnl hnews (by decide) (by decide) (by rw [hz2]; decide)
    have hge := grownCap_ge w 1 0 49
    refine ⟨_, _, hr, .inr ⟨w.heap.size, 0, _, _, rfl, heap_alloc_new w.drew _, by simpa using hge, grownCap_le_maxLen w 1 0 _ (by unfold maxLen; decide), ?_, ?_⟩, ⟨rfl, rfl, rfl, by simp, fun k hk _ => heap_alloc_old w.drew _ k hk⟩, .inr rfl⟩
    · simp only [Array.size_append, List.size_toArray, size_zeroCells, hpc, hzc]
      omega
    · simp [packCells]
  · by_cases hroom : ls.length + 1 ≤ cap
    · have hf := run_firstCells_some (P := Tryd.prog) w i0.size 1 ⟨B, 0, none⟩ 1 1 (packCells c) hnl hnews
      have hst := run_storeCells_at Tryd.prog g (off + ls.length * i0.size) 49 (packCells c) 0 cur w hg (by rw [hz1]; show off + ls.length * 2 + 0 + 2 ≤ _; omega) h1
      simp only [Nat.add_zero] at hst
      have hr : (Builtin.append_ #[23, 23] ty #[.slice (some ⟨g, off, none⟩) ls.length cap, .slice (some ⟨B, 0, none⟩) 1 1]).run Tryd.prog w = .ok (.slice (some ⟨g, off, none⟩) (ls.length + 1) cap) (w.setRow g (cur.toList.take (off + ls.length * i0.size) ++ packCells c ++ cur.toList.drop (off + ls.length * i0.size + (packCells c).length)).toArray) := by
        simp [Builtin.append_, run_underlying Tryd.underlying23, sizeOf, typeInfo, hi, Builtin.lenOf, hroom, hf, Addr.add_lit, hst]
      refine ⟨_, _, hr, .inr ⟨g, off, cap, _, by simp, setRow_heap w g cur _ _ _ hg, by simpa using hroom, hm, ?_, ?_⟩, ⟨rfl, rfl, rfl, by simp, fun k _ hk => setRow_other w g k _ (fun e => hk (by simp [Value.ownBlock, e]))⟩, .inl rfl⟩
      · have hpl : (packCells c).length = 2 := rfl
        simp only [List.size_toArray, List.length_append, List.length_take, List.length_drop, Array.length_toList, hpl, hz1]
        omega
      · rw [hz1]
        have hpl : (packCells c).length = 2 := rfl
        have htk : (cur.toList.take (off + ls.length * 2)).length = off + ls.length * 2 := by simp; omega
        have hdt : (cur.toList.take (off + ls.length * 2)).drop off = ls.flatMap packCells := by
          rw [← ht, List.drop_take]
          congr 1
          omega
        show ((cur.toList.take (off + ls.length * 2) ++ packCells c ++ cur.toList.drop _).drop off).take ((ls ++ [c]).length * 2) = _
        rw [List.append_assoc, List.drop_append, htk, hdt, show off - (off + ls.length * 2) = 0 by omega, List.drop_zero, ← List.append_assoc]
        have hl2 : (ls.flatMap packCells ++ packCells c).length = (ls ++ [c]).length * 2 := by rw [List.length_append, packs_flat_length, hpl]; simp; omega
        rw [← hl2, List.take_left]
        simp
    · have hol : (ls.flatMap packCells).length = ls.length * i0.size := by rw [hz1]; exact packs_flat_length ls
      have hr := run_append_grow (P := Tryd.prog) w 23 ty 49 i0 _ Tryd.underlying23 hi hz0 ⟨g, off, none⟩ ls.length cap (ls.flatMap packCells) hol (win_cells hg ht) ⟨B, 0, none⟩ 1 1 (packCells c) hnl hnews (by omega) (by omega) (growslice_fits (by omega) (by rw [hz2]; omega))
      have hge := grownCap_ge w (ls.length + 1) cap 49
      refine ⟨_, _, hr, .inr ⟨w.heap.size, 0, grownCap w (ls.length + 1) cap 49, _, by simp, heap_alloc_new w.drew _, by simpa using hge, grownCap_le_maxLen w (ls.length + 1) cap _ (by unfold maxLen; omega), ?_, ?_⟩, ⟨rfl, rfl, rfl, by simp, fun k hk _ => heap_alloc_old w.drew _ k hk⟩, .inr rfl⟩
      · rw [hz1] at hol
        simp only [Array.size_append, List.size_toArray, size_zeroCells, hpc, hol, hzc]
        omega
      · have hpl : (packCells c).length = 2 := rfl
        have hl2 : (ls.flatMap packCells ++ packCells c).length = (ls ++ [c]).length * 2 := by rw [List.length_append, packs_flat_length, hpl]; simp; omega
        simp only [List.drop_zero, Array.toList_append]
        rw [← hl2]
        show (ls.flatMap packCells ++ packCells c ++ _).take _ = _
        rw [List.take_left]
        simp
theorem wpList_append_win {ops : Array Oper} {rest : List Oper} {o : Oper} {a : Act} {Q : Exit → Act → World → Prop} (hgd : o.guard = none) (s x : Operand)
    (ho : o.op = .call { callee := .builtin .append, args := #[s, x], argTypes := #[23, 23] }) {w : World} (v : Value) (ls : List PackT) (hs : a.eval s = v) (hrow : PWin w v ls)
    (c : PackT) (B : Nat) (hx : a.eval x = .slice (some ⟨B, 0, none⟩) 1 1) (hB : w.heap[B]? = some (.cells #[.string c.src, .string c.bytes] 49 (0, 0))) (hlen : ls.length ≤ 1000000)
    (h : ∀ v' w', PWin w' v' (ls ++ [c]) → w.grownBy w' v.ownBlock → (v'.ownBlock = v.ownBlock ∨ v'.ownBlock = some w.heap.size) → wpList Tryd.prog ops Q rest (a.put o.dst v') w') :
    wpList Tryd.prog ops Q (o :: rest) a w := by
  refine wpList_plain hgd fun _ hK => ?_
  obtain ⟨v', w', hr, h2, h3, h4⟩ := run_append_win w o.type v ls hrow c B hB hlen
  unfold Oper.wp execOp
  simp only [ho, resolve, invoke, builtin, Sem.run_bind, Sem.run_pure, Result.andThen_ok, List.map_toArray, List.map_cons, List.map_nil, hs, hx, hr]
  exact hK _ _ (h v' w' h2 h3 h4)

end Go.Proofs.YtalpkndlnfgjfaaDoor
