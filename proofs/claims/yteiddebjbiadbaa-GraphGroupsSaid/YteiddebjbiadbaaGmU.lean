/- graph: Components: the lists of the groups, in memory. -/
import Derived.Test.YteiddebjbiadbaaGmG
import Derived.Test.YteiddebjbiadbaaGmN
namespace Go.Proofs.Yteiddebjbiadbaa
open Go.RowKit Gr

abbrev RowE := Option Addr × Nat × Nat
def rowV (e : RowE) : Value := .slice e.1 e.2.1 e.2.2
theorem kRow_flat (l : List RowE) : l.flatMap kRow.cells = l.map rowV := by
  induction l with | nil => rfl | cons y r ih => simp only [List.flatMap_cons, List.map_cons, ih]; rfl
structure AsmAt (w : World) (ab : Nat) (vt : Value) (rows : List RowE) (at' : List Nat) (ls : List (List Nat)) : Prop where
  at_ : MarkRow w ab at'
  tab : OwnK kRow (ab + 1) w vt rows
  len : rows.length = ls.length
  row : ∀ (i : Nat) (e : RowE) (l : List Nat), rows[i]? = some e → ls[i]? = some l → OwnK kNat (ab + 1) w (rowV e) l
  ne : ∀ (i : Nat) (e : RowE), rows[i]? = some e → ∀ k, (rowV e).ownBlock = some k → vt.ownBlock ≠ some k
  dis : ∀ (i j : Nat) (e f : RowE), rows[i]? = some e → rows[j]? = some f → i ≠ j → ∀ k, (rowV e).ownBlock = some k → (rowV f).ownBlock ≠ some k
section
variable {w w9 : World} {ab : Nat} {vt v9 : Value} {rows : List RowE} {at' : List Nat} {ls : List (List Nat)}
theorem AsmAt.get (h : AsmAt w ab vt rows at' ls) {i : Nat} {e : RowE} (he : rows[i]? = some e) : ∃ l, ls[i]? = some l ∧ OwnK kNat (ab + 1) w (rowV e) l := by
  have hi := (List.getElem?_eq_some_iff.1 he).1
  rw [h.len] at hi
  exact ⟨_, List.getElem?_eq_getElem hi, h.row i e _ he (List.getElem?_eq_getElem hi)⟩
theorem AsmAt.rlt (h : AsmAt w ab vt rows at' ls) {i : Nat} {e : RowE} (he : rows[i]? = some e) {k : Nat} (hk : (rowV e).ownBlock = some k) : ab < k ∧ k < w.heap.size := by
  obtain ⟨l, _, ho⟩ := h.get he
  exact ho.lt hk
theorem AsmAt.set (h : AsmAt w ab vt rows at' ls) (i c : Nat) : AsmAt (w.setCell ⟨ab, i, none⟩ (.int .i64 (c : Int))) ab vt rows (at'.set i c) ls :=
  ⟨h.at_.set i c, h.tab.set (Nat.lt_succ_self _), h.len, fun i e l he hl => (h.row i e l he hl).set (Nat.lt_succ_self _), h.ne, h.dis⟩
theorem AsmAt.later {w' : World} (h : AsmAt w ab vt rows at' ls) (hb : Below w.heap.size w w') : AsmAt w' ab vt rows at' ls :=
  ⟨RowIs.later h.at_ hb, h.tab.later hb, h.len, fun i e l he hl => (h.row i e l he hl).later hb, h.ne, h.dis⟩
theorem AsmAt.not (h : AsmAt w ab vt rows at' ls) : vt.ownBlock ≠ some ab := fun e => by have := (h.tab.lt e).1; omega
theorem AsmAt.add (h : AsmAt w ab vt rows at' ls) (hg : w.grownBy w9 vt.ownBlock) (ho : OwnK kRow (ab + 1) w9 v9 (rows ++ [(none, 0, 0)])) (hat : v9.ownBlock = vt.ownBlock ∨ v9.ownBlock = some (w.heap.size + 1)) : AsmAt w9 ab v9 (rows ++ [(none, 0, 0)]) at' (ls ++ [[]]) := by
  have key : ∀ (i : Nat) (e : RowE), (rows ++ [((none, 0, 0) : RowE)])[i]? = some e → rows[i]? = some e ∨ i = rows.length ∧ e = (none, 0, 0) := fun i e he => by
    rcases Nat.lt_trichotomy i rows.length with q | q | q
    · left; rwa [List.getElem?_append_left q] at he
    · right; subst q; simp at he; exact ⟨rfl, he.symm⟩
    · rw [List.getElem?_eq_none (by simp; omega)] at he; cases he
  refine ⟨RowIs.kept h.at_ (hg.block ab (RowIs.lt h.at_) (fun e => h.not e.symm)), ho, by simp [h.len], fun i e l he hl => ?_, fun i e he k hk => ?_, fun i j e f he hf hij k hk => ?_⟩
  · rcases key i e he with q | ⟨rfl, rfl⟩
    · rw [List.getElem?_append_left (by have := (List.getElem?_eq_some_iff.1 q).1; rw [h.len] at this; exact this)] at hl
      exact (h.row i e l q hl).kept hg (fun k hk e2 => h.ne i e q k hk e2.symm)
    · rw [h.len] at hl
      simp at hl
      subst hl
      exact OwnK.nil _ _
  · rcases key i e he with q | ⟨rfl, rfl⟩
    · have h1 := h.rlt q hk
      rcases hat with a | a
      · rw [a]; exact h.ne i e q k hk
      · rw [a]; intro e2; cases e2; omega
    · cases hk
  · rcases key i e he with q | ⟨rfl, rfl⟩
    · rcases key j f hf with q2 | ⟨rfl, rfl⟩
      · exact h.dis i j e f q q2 hij k hk
      · intro e2; cases e2
    · cases hk
theorem AsmAt.tabAt (h : AsmAt w ab vt rows at' ls) {j : Nat} {e : RowE} (he : rows[j]? = some e) : ∃ g c, vt = .slice (some ⟨g, 0, none⟩) rows.length c ∧ w.cell? ⟨g, j, none⟩ = some (rowV e) ∧ (∀ i, w.frozen? ⟨g, i, none⟩ = false) := by
  obtain ⟨h1, h2⟩ := h.tab
  rcases h2 with ⟨h2, h0⟩ | ⟨g, cap, cur, hv, r⟩
  · rw [List.length_eq_zero_iff.1 h0] at he; simp at he
  · have H : w.ownsRow (ab + 1) 30 1 (.slice (some ⟨g, 0, none⟩) rows.length cap) rows.length (rows.flatMap kRow.cells) := ⟨h1, .inr ⟨g, cap, cur, rfl, r⟩⟩
    refine ⟨g, cap, hv, ?_, H.frozenAt⟩
    rw [H.cellAt j (by have := (List.getElem?_eq_some_iff.1 he).1; omega), kRow_flat, List.getElem?_map, he]
    rfl
theorem AsmAt.tab9 (h : AsmAt w ab vt rows at' ls) {g c j : Nat} {e : RowE} (hvt : vt = .slice (some ⟨g, 0, none⟩) rows.length c) (he : rows[j]? = some e) (hg : w.grownBy w9 (rowV e).ownBlock) : w9.cell? ⟨g, j, none⟩ = some (rowV e) ∧ w9.frozen? ⟨g, j, none⟩ = false := by
  have ht9 : OwnK kRow (ab + 1) w9 vt rows := h.tab.kept hg (fun k hk q => h.ne j e he k q.symm hk)
  subst hvt
  unfold OwnK at ht9
  refine ⟨?_, World.ownsRow.frozenAt ht9 j⟩
  rw [World.ownsRow.cellAt ht9 j (by have := (List.getElem?_eq_some_iff.1 he).1; show j < rows.length * 1; omega), kRow_flat, List.getElem?_map, he]
  rfl
theorem AsmAt.put (h : AsmAt w ab vt rows at' ls) {g c j i : Nat} {e e' : RowE} {l : List Nat} (hvt : vt = .slice (some ⟨g, 0, none⟩) rows.length c) (he : rows[j]? = some e) (hg : w.grownBy w9 (rowV e).ownBlock) (ho : OwnK kNat (ab + 1) w9 (rowV e') (l ++ [i]))
    (hat : (rowV e').ownBlock = (rowV e).ownBlock ∨ (rowV e').ownBlock = some (w.heap.size + 1)) : AsmAt (w9.setCell ⟨g, j, none⟩ (rowV e')) ab vt (rows.set j e') at' (ls.set j (l ++ [i])) := by
  have hvo : vt.ownBlock = some g := by rw [hvt]; rfl
  have hgl := h.tab.lt hvo
  have hnab : (rowV e).ownBlock ≠ some ab := fun q => by have := (h.rlt he q).1; omega
  have h2 := grown_setCell w9 g j (rowV e')
  have hjl : j < rows.length := (List.getElem?_eq_some_iff.1 he).1
  have hgne : ∀ k, (rowV e').ownBlock = some k → k ≠ g := fun k hk => by
    rcases hat with a | a
    · rw [a] at hk; intro q; exact h.ne j e he k hk (q ▸ hvo)
    · rw [a] at hk; cases hk; omega
  have ht9 : OwnK kRow (ab + 1) w9 vt rows := h.tab.kept hg (fun k hk q => h.ne j e he k q.symm hk)
  have key : ∀ (i2 : Nat) (f : RowE), (rows.set j e')[i2]? = some f → i2 ≠ j ∧ rows[i2]? = some f ∨ i2 = j ∧ f = e' := fun i2 f hf => by
    by_cases q : i2 = j
    · subst q; rw [List.getElem?_set_self hjl] at hf; exact .inr ⟨rfl, (Option.some.inj hf).symm⟩
    · rw [List.getElem?_set_ne (Ne.symm q)] at hf; exact .inl ⟨q, hf⟩
  refine ⟨RowIs.other_set (RowIs.kept h.at_ (hg.block ab (RowIs.lt h.at_) (fun q => hnab q.symm))) (by omega) _ _, ?_, by simp [h.len], fun i2 f l2 hf hl2 => ?_, fun i2 f hf k hk => ?_, fun i2 j2 f f2 hf hf2 hij k hk => ?_⟩
  · subst hvt
    unfold OwnK at ht9 ⊢
    have := (World.ownsRow.stored ht9 j (rowV e')).1
    rw [List.length_set, kRow_flat, List.map_set, ← kRow_flat]
    exact this
  · rcases key i2 f hf with ⟨q, hf⟩ | ⟨rfl, rfl⟩
    · rw [List.getElem?_set_ne (Ne.symm q)] at hl2
      exact ((h.row i2 f l2 hf hl2).kept hg (fun k hk q2 => h.dis i2 j f e hf he q k hk q2.symm)).kept h2 (fun k hk q2 => h.ne i2 f hf k hk (by rw [hvo]; exact q2.symm))
    · rw [List.getElem?_set_self (by rw [← h.len]; exact hjl)] at hl2
      cases hl2
      exact ho.kept h2 (fun k hk q2 => hgne k hk (Option.some.inj q2))
  · rw [hvo]
    rcases key i2 f hf with ⟨q, hf⟩ | ⟨rfl, rfl⟩
    · intro q2; exact h.ne i2 f hf k hk (by rw [hvo]; exact q2)
    · intro q2; exact hgne k hk (Option.some.inj q2).symm
  · have fresh : ∀ (i3 : Nat) (f3 : RowE), rows[i3]? = some f3 → i3 ≠ j → ∀ k, (rowV f3).ownBlock = some k → (rowV e').ownBlock ≠ some k := fun i3 f3 h3 hn k hk q => by
      rcases hat with a | a
      · exact h.dis i3 j f3 e h3 he hn k hk (a ▸ q)
      · rw [a] at q; cases q; have := (h.rlt h3 hk).2; omega
    rcases key i2 f hf with ⟨q, h5⟩ | ⟨rfl, rfl⟩
    · rcases key j2 f2 hf2 with ⟨q2, h6⟩ | ⟨rfl, rfl⟩
      · exact h.dis i2 j2 f f2 h5 h6 hij k hk
      · exact fresh i2 f h5 q k hk
    · rcases key j2 f2 hf2 with ⟨q2, h6⟩ | ⟨rfl, rfl⟩
      · intro q3; exact fresh j2 f2 h6 q2 k q3 hk
      · exact absurd rfl hij
end
theorem val_getD {g : List Nat} {i : Nat} (h : i < g.length) : g.getD i 0 = val g i := by
  unfold val
  rw [List.getD_eq_getElem?_getD, List.getD_eq_getElem?_getD, List.getElem?_eq_getElem h]
  rfl
theorem asm_new {g at0 : List Nat} {ls0 : List (List Nat)} {i v : Nat} (hv : g.getD i 0 = v) (hl : v < at0.length) (h0 : val at0 v = 0) : asmStep g (at0, ls0) i = (at0.set v (ls0.length + 1), (ls0 ++ [[]]).set ls0.length ([] ++ [i])) := by
  unfold asmStep
  dsimp only
  rw [hv, val_getD hl, if_pos h0]
  have e : (at0.set v (ls0.length + 1)).getD v 0 = ls0.length + 1 := by rw [List.getD_eq_getElem?_getD, List.getElem?_set_self hl]; rfl
  dsimp only
  rw [e, Nat.add_sub_cancel]
  have e2 : (ls0 ++ [[]]).getD ls0.length [] = ([] : List Nat) := by rw [List.getD_eq_getElem?_getD, List.getElem?_append_right (Nat.le_refl _), Nat.sub_self]; rfl
  rw [e2]
theorem asm_old {g at0 : List Nat} {ls0 : List (List Nat)} {i v j : Nat} {l : List Nat} (hv : g.getD i 0 = v) (hl : v < at0.length) (h0 : val at0 v = j + 1) (hj : ls0[j]? = some l) : asmStep g (at0, ls0) i = (at0, ls0.set j (l ++ [i])) := by
  unfold asmStep
  dsimp only
  rw [hv, val_getD hl, if_neg (by omega)]
  dsimp only
  rw [val_getD hl, h0, Nat.add_sub_cancel, List.getD_eq_getElem?_getD, hj]
  rfl
/-! The plain step. -/
structure AsmOk (c k : Nat) (st : List Nat × List (List Nat)) : Prop where
  len : st.1.length = c + 1
  le : ∀ x ∈ st.1, x ≤ st.2.length
  cnt : st.2.length ≤ k
  small : ∀ l ∈ st.2, l.length ≤ k
theorem set_small {k j i : Nat} {L : List (List Nat)} (h : ∀ l ∈ L, l.length ≤ k) : ∀ l ∈ L.set j (L.getD j [] ++ [i]), l.length ≤ k + 1 := fun l hl => by
  rcases List.mem_or_eq_of_mem_set hl with q | q
  · have := h l q; omega
  · rw [q, List.length_append, List.length_singleton, List.getD_eq_getElem?_getD]
    cases e : L[j]? with
    | none => simp
    | some x => have := h x (List.mem_of_getElem? e); simp; omega
theorem asm_ok {c k : Nat} {g : List Nat} (st : List Nat × List (List Nat)) (h : AsmOk c k st) (i : Nat) : AsmOk c (k + 1) (asmStep g st i) := by
  unfold asmStep
  dsimp only
  split
  · refine ⟨by rw [List.length_set]; exact h.len, fun x hx => ?_, by rw [List.length_set, List.length_append, List.length_singleton]; have := h.cnt; omega, ?_⟩
    · rw [List.length_set, List.length_append, List.length_singleton]
      rcases List.mem_or_eq_of_mem_set hx with q | q
      · have := h.le x q; omega
      · omega
    · refine set_small (fun l hl => ?_)
      rcases List.mem_append.1 hl with q | q
      · exact h.small l q
      · simp at q; subst q; simp
  · exact ⟨h.len, fun x hx => by rw [List.length_set]; exact h.le x hx, by rw [List.length_set]; have := h.cnt; omega, set_small h.small⟩
def asmS (g : List Nat) (c i : Nat) : List Nat × List (List Nat) := (List.range i).foldl (asmStep g) (List.replicate (c + 1) 0, [])
theorem asmS_succ (g : List Nat) (c i : Nat) : asmS g c (i + 1) = asmStep g (asmS g c i) i := by unfold asmS; rw [List.range_succ, List.foldl_append]; rfl
theorem asmS_ok (g : List Nat) (c : Nat) : ∀ i, AsmOk c i (asmS g c i)
  | 0 => ⟨by simp [asmS], fun x hx => by simp [asmS] at hx; omega, Nat.le_refl _, fun l hl => by simp [asmS] at hl⟩
  | i + 1 => by rw [asmS_succ]; exact asm_ok _ (asmS_ok g c i) i
theorem asmS_all (g : List Nat) (c : Nat) : (asmS g c g.length).2 = asmF g c := rfl
end Go.Proofs.Yteiddebjbiadbaa
