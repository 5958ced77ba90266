/- graph: slices.Clone; a graph under construction. (printed by wip/gen_gmn.py) -/
import Derived.Test.YteiddebjbiadbaaGmK
import Derived.Test.YteiddebjbiadbaaGmC
import Derived.Lib.SliceRun
namespace Go.Proofs.Yteiddebjbiadbaa
open Go.RowKit Gr
attribute [local go_sem ↓] Go.wp_at_zero Go.wp_at_succ
theorem run_eql_cloneE_nil (w : World) (a : Option Addr) (l c : Nat) : (binOp .eql 45 (.slice a l c) (.slice none 0 0)).run Try.prog w = .ok (.bool a.isNone) w :=
  Lib.run_eql_slice_nil w _ _ a l c 0 0 Try.underlying45
attribute [local go_sem] run_eql_cloneE_nil
theorem cloneE_any {w : World} {v : Value} {cs : List (Int × Int)} (h : RowK kEdge w v cs) (hl : cs.length ≤ 1000000) :
    Calls Try.prog 43 #[v] w fun r w' => ∃ v', r = .returned v' ∧ OwnK kEdge w.heap.size w' v' cs ∧ Below w.heap.size w w' := by
  rcases id h with ⟨rfl, rfl⟩ | ⟨g, off, c, rfl, -, -⟩
  · go_enter Try.func43, Try.ntmps43
    go_wp2
    go_ret
    exact ⟨_, rfl, OwnK.nil _ _, Below.refl _ _⟩
  · have H := Lib.hid h
    have HLn : Hid (([] : List (Int × Int)).length + cs.length ≤ 1000000) := by show _ ≤ _; simp; omega
    have HB : Hid (∀ o, Below w.heap.size w (w.alloc o)) := fun o => (Below.refl _ _).alloc (Nat.le_refl _) _
    have HE0 : Hid (OwnK kEdge w.heap.size (w.alloc (.cells #[] 60)) (.slice (some ⟨w.heap.size, 0, none⟩) 0 0) []) := OwnK.empty (K := kEdge) (heap_alloc_new w _) (Nat.le_refl _)
    clear h hl
    generalize cs.length = n at H ⊢
    go_enter Try.func43, Try.ntmps43
    go_wp2_with (first
      | (at_builtin; go_loud (refine wpList_append_K (K := kEdge) rfl _ _ rfl w.heap.size (.slice (some ⟨w.heap.size, 0, none⟩) 0 0) [] rfl HE0.out (.slice (some ⟨g, off, none⟩) n c) cs rfl (H.out.later (HB.out _)) HLn.out (HB.out _).size ?_; intro v9 w9 hrow9 hg9 hat9; have HO9 : Hid (OwnK kEdge w.heap.size w9 v9 cs) := hrow9; have HL9 : Hid (Below w.heap.size w w9) := OwnK.below HE0.out hg9 (HB.out _) (Nat.le_refl _); clear hrow9 hg9 hat9))
      | go_in)
    refine bodyPost_ret (v := v9) (by simp [results, Try.results43, go_sem]) rfl ?_
    exact ⟨_, rfl, HO9.out, HL9.out⟩
theorem run_eql_cloneI_nil (w : World) (a : Option Addr) (l c : Nat) : (binOp .eql 30 (.slice a l c) (.slice none 0 0)).run Try.prog w = .ok (.bool a.isNone) w :=
  Lib.run_eql_slice_nil w _ _ a l c 0 0 Try.underlying30
attribute [local go_sem] run_eql_cloneI_nil
theorem cloneI_any {w : World} {v : Value} {cs : List Nat} (h : RowK kNat w v cs) (hl : cs.length ≤ 1000000) :
    Calls Try.prog 57 #[v] w fun r w' => ∃ v', r = .returned v' ∧ OwnK kNat w.heap.size w' v' cs ∧ Below w.heap.size w w' := by
  rcases id h with ⟨rfl, rfl⟩ | ⟨g, off, c, rfl, -, -⟩
  · go_enter Try.func57, Try.ntmps57
    go_wp2
    go_ret
    exact ⟨_, rfl, OwnK.nil _ _, Below.refl _ _⟩
  · have H := Lib.hid h
    have HLn : Hid (([] : List Nat).length + cs.length ≤ 1000000) := by show _ ≤ _; simp; omega
    have HB : Hid (∀ o, Below w.heap.size w (w.alloc o)) := fun o => (Below.refl _ _).alloc (Nat.le_refl _) _
    have HE0 : Hid (OwnK kNat w.heap.size (w.alloc (.cells #[] 3)) (.slice (some ⟨w.heap.size, 0, none⟩) 0 0) []) := OwnK.empty (K := kNat) (heap_alloc_new w _) (Nat.le_refl _)
    clear h hl
    generalize cs.length = n at H ⊢
    go_enter Try.func57, Try.ntmps57
    go_wp2_with (first
      | (at_builtin; go_loud (refine wpList_append_K (K := kNat) rfl _ _ rfl w.heap.size (.slice (some ⟨w.heap.size, 0, none⟩) 0 0) [] rfl HE0.out (.slice (some ⟨g, off, none⟩) n c) cs rfl (H.out.later (HB.out _)) HLn.out (HB.out _).size ?_; intro v9 w9 hrow9 hg9 hat9; have HO9 : Hid (OwnK kNat w.heap.size w9 v9 cs) := hrow9; have HL9 : Hid (Below w.heap.size w w9) := OwnK.below HE0.out hg9 (HB.out _) (Nat.le_refl _); clear hrow9 hg9 hat9))
      | go_in)
    refine bodyPost_ret (v := v9) (by simp [results, Try.results57, go_sem]) rfl ?_
    exact ⟨_, rfl, HO9.out, HL9.out⟩

/-! ### Rows under construction -/
theorem OwnK.kept {α : Type} {K : KindK α} {base : Nat} {w w' : World} {v : Value} {xs : List α} (h : OwnK K base w v xs) {row : Option Nat} (hg : w.grownBy w' row) (hne : ∀ k, v.ownBlock = some k → some k ≠ row) : OwnK K base w' v xs := by
  obtain ⟨h1, h2⟩ := h
  refine ⟨h1, ?_⟩
  rcases h2 with h2 | ⟨g, cap, cur, hv, hgb, hh, r⟩
  · exact .inl h2
  · exact .inr ⟨g, cap, cur, hv, hgb, (hg.block g (lt_of_heap hh) (hne g (by rw [hv]; rfl))).trans hh, r⟩
theorem OwnK.set {α : Type} {K : KindK α} {base : Nat} {w : World} {v : Value} {xs : List α} (h : OwnK K base w v xs) {b i : Nat} {u : Value} (hb : b < base) : OwnK K base (w.setCell ⟨b, i, none⟩ u) v xs :=
  h.kept (grown_setCell w b i u) (fun k hk e => by have := (h.lt hk).1; cases e; omega)
/-- Two tables of rows at tb true, tb false; row i of table s is V s i and shows R s i; no two share a block. -/
structure Bld (base n : Nat) (tb : Bool → Nat) (w : World) (V : Bool → Nat → Value) (R : Bool → Nat → List Nat) : Prop where
  tab : ∀ s, RowIs w (tb s) 30 ((List.range n).map (V s))
  low : ∀ s, tb s < base
  ne : tb true ≠ tb false
  own : ∀ s i, i < n → OwnK kNat base w (V s i) (R s i)
  apart : ∀ s i s' i', i < n → i' < n → ∀ k, (V s i).ownBlock = some k → (V s' i').ownBlock = some k → s = s' ∧ i = i'
  le : base ≤ w.heap.size
theorem Bld.cell {base n : Nat} {tb : Bool → Nat} {w : World} {V : Bool → Nat → Value} {R : Bool → Nat → List Nat} (h : Bld base n tb w V R) (s : Bool) {i : Nat} (hi : i < n) : w.cell? ⟨tb s, i, none⟩ = some (V s i) ∧ w.frozen? ⟨tb s, i, none⟩ = false := by
  refine ⟨(h.tab s).cell ?_, (h.tab s).free i⟩
  rw [List.getElem?_map, List.getElem?_range hi]; rfl
theorem Bld.later {base n : Nat} {tb : Bool → Nat} {w w' : World} {V : Bool → Nat → Value} {R : Bool → Nat → List Nat} (h : Bld base n tb w V R) (hb : Below w.heap.size w w') : Bld base n tb w' V R :=
  ⟨fun s => (h.tab s).later hb, h.low, h.ne, fun s i hi => (h.own s i hi).later hb, h.apart, Nat.le_trans h.le hb.size⟩
def putV {α : Type} (V : Bool → Nat → α) (s : Bool) (i : Nat) (v : α) : Bool → Nat → α := fun s' j => if s' = s ∧ j = i then v else V s' j
theorem Bld.put {base n : Nat} {tb : Bool → Nat} {w w' : World} {V : Bool → Nat → Value} {R : Bool → Nat → List Nat} (h : Bld base n tb w V R) {s : Bool} {i : Nat} (hi : i < n) {v : Value} {xs : List Nat} (ho : OwnK kNat base w' v xs) (hg : w.grownBy w' (V s i).ownBlock)
    (hv : v.ownBlock = (V s i).ownBlock ∨ ∃ k, v.ownBlock = some k ∧ w.heap.size ≤ k) : Bld base n tb (w'.setCell ⟨tb s, i, none⟩ v) (putV V s i v) (putV R s i xs) := by
  have hown : ∀ s' i', i' < n → ∀ k, (V s' i').ownBlock = some k → base ≤ k ∧ k < w.heap.size := fun s' i' hi' k hk => (h.own s' i' hi').lt hk
  have htb : ∀ s', RowIs w' (tb s') 30 ((List.range n).map (V s')) := fun s' => RowIs.kept (h.tab s') (hg.block _ (RowIs.lt (h.tab s')) (fun e => by have := (hown s i hi _ e.symm).1; have := h.low s'; omega))
  refine ⟨fun s' => ?_, h.low, h.ne, fun s' i' hi' => ?_, fun s1 i1 s2 i2 h1 h2 k k1 k2 => ?_, by rw [size_setCell]; exact Nat.le_trans h.le hg.size⟩
  · by_cases e : s' = s
    · subst e
      have := (htb s').set i v
      refine this.trans (congrArg (fun l : List Value => some (Obj.cells l.toArray 30 (0, 0))) ?_)
      apply List.ext_getElem?
      intro j
      simp only [List.getElem?_set, List.getElem?_map, List.length_map, List.length_range]
      by_cases q : i = j
      · subst q
        rw [if_pos rfl, if_pos hi, List.getElem?_range hi]
        simp [putV]
      · rw [if_neg q]
        by_cases hj : j < n
        · rw [List.getElem?_range hj]
          simp [putV, Ne.symm q]
        · rw [List.getElem?_eq_none (by simpa using hj)]
          rfl
    · have hr : (List.range n).map (putV V s i v s') = (List.range n).map (V s') := List.map_congr_left (fun j _ => by simp [putV, e])
      rw [hr]
      refine (htb s').other_set ?_ i v
      have := h.ne
      cases s <;> cases s' <;> simp_all
      exact fun q => this q.symm
  · by_cases e : s' = s ∧ i' = i
    · simp only [putV, if_pos e]
      exact ho.set (h.low s)
    · simp only [putV, if_neg e]
      refine ((h.own s' i' hi').kept hg (fun k hk q => ?_)).set (h.low s)
      exact e (h.apart s' i' s i hi' hi k hk q.symm)
  · simp only [putV] at k1 k2
    have hnew : ∀ s' i', i' < n → ¬ (s' = s ∧ i' = i) → ∀ k, (V s' i').ownBlock = some k → v.ownBlock ≠ some k := fun s' i' hi' hne k hk e => by
      rcases hv with q | ⟨m, q, hm⟩
      · rw [q] at e
        exact hne (h.apart s' i' s i hi' hi k hk e)
      · rw [q] at e
        cases e
        have := (hown s' i' hi' _ hk).2
        omega
    by_cases e1 : s1 = s ∧ i1 = i
    · by_cases e2 : s2 = s ∧ i2 = i
      · exact ⟨e1.1.trans e2.1.symm, e1.2.trans e2.2.symm⟩
      · rw [if_pos e1] at k1
        rw [if_neg e2] at k2
        exact absurd k1 (hnew s2 i2 h2 e2 k k2)
    · rw [if_neg e1] at k1
      by_cases e2 : s2 = s ∧ i2 = i
      · rw [if_pos e2] at k2
        exact absurd k2 (hnew s1 i1 h1 e1 k k1)
      · rw [if_neg e2] at k2
        exact h.apart s1 i1 s2 i2 h1 h2 k k1 k2
theorem Bld.rows {base n : Nat} {tb : Bool → Nat} {w : World} {V : Bool → Nat → Value} {R : Bool → Nat → List Nat} (h : Bld base n tb w V R) (s : Bool) : RowsAt w (tb s) n (R s) := fun i hi => ⟨V s i, (h.cell s hi).1, (h.own s i hi).row⟩
end Go.Proofs.Yteiddebjbiadbaa
