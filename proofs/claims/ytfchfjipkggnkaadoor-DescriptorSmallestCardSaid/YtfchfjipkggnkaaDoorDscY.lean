/- Law 31, plain: tables and what is free in them; an array of Booleans in memory. (printed by wip/gen_dscy.py) -/
import Derived.Test.YtfchfjipkggnkaaDoorDscU
import Derived.Test.YtfchfjipkggnkaaDoorDscW
namespace Go.Proofs.YtfchfjipkggnkaaDoor
open Go.RowKit

/-- γ tells which descriptors are free. -/
def GT (t : List OpnT) (γ : Nat → Bool) : Prop := t.length = 16 ∧ ∀ i o, t[i]? = some o → isZ o = γ i
def updB (γ : Nat → Bool) (j : Nat) (b : Bool) : Nat → Bool := fun i => if i = j then b else γ i
theorem free_from {t : List OpnT} {γ : Nat → Bool} (h : GT t γ) : ∀ (m k j : Nat), j = k + m → j ≤ 16 → (∀ i, k ≤ i → i < j → γ i = false) → freeO (t.drop k) k = freeO (t.drop j) j
  | 0, k, j, e, _, _ => by
    obtain rfl : j = k := by omega
    rfl
  | m + 1, k, j, e, hj, hf => by
    obtain ⟨o, ho⟩ := ent_some h.1 (show k < 16 by omega)
    have hz : isZ o = false := (h.2 k o ho).trans (hf k (by omega) (by omega))
    rw [free_step ho, if_neg (by rw [hz]; decide)]
    exact free_from h m (k + 1) j (by omega) hj (fun i h1 h2 => hf i (by omega) h2)
theorem free_none {t : List OpnT} {γ : Nat → Bool} (h : GT t γ) (hf : ∀ i, i < 16 → γ i = false) : freeO t 0 = none := by
  have := free_from h 16 0 16 rfl (by omega) (fun i _ h2 => hf i h2)
  rw [free_end h.1] at this
  exact this
theorem free_some {t : List OpnT} {γ : Nat → Bool} (h : GT t γ) {j : Nat} (hj : j < 16) (hγ : γ j = true) (hf : ∀ i, i < j → γ i = false) : freeO t 0 = some j := by
  have := free_from h j 0 j (by omega) (by omega) (fun i _ h2 => hf i h2)
  obtain ⟨o, ho⟩ := ent_some h.1 hj
  rw [free_step ho, if_pos ((h.2 j o ho).trans hγ)] at this
  exact this
theorem gt_set {t : List OpnT} {γ : Nat → Bool} (h : GT t γ) (j : Nat) (o : OpnT) : GT (t.set j o) (updB γ j (isZ o)) := by
  refine ⟨by simp [h.1], fun i x hx => ?_⟩
  rw [List.getElem?_set] at hx
  unfold updB
  by_cases e : j = i
  · subst e
    rw [if_pos rfl] at hx
    rw [if_pos rfl]
    split at hx
    · injection hx with hx; rw [hx]
    · cases hx
  · rw [if_neg e] at hx
    rw [if_neg (fun h => e h.symm)]
    exact h.2 i x hx
theorem isZ_file (n : Int) : isZ (fileO n) = false := rfl
theorem gt_add {t : List OpnT} {γ : Nat → Bool} (h : GT t γ) {j : Nat} (hj : j < 16) (hγ : γ j = true) (hf : ∀ i, i < j → γ i = false) (n : Int) : addF (fileO n) t = (⟨zeroTab, zeroO, j, 0⟩, some (some (t.set j (fileO n)))) ∧ GT (t.set j (fileO n)) (updB γ j false) := by
  refine ⟨?_, ?_⟩
  · unfold addF
    rw [free_some h hj hγ hf]
  · have := gt_set h j (fileO n)
    rw [isZ_file] at this
    exact this
theorem gt_full {t : List OpnT} {γ : Nat → Bool} (h : GT t γ) (hf : ∀ i, i < 16 → γ i = false) (o : OpnT) : addF o t = (errD 9, none) := by
  unfold addF
  rw [free_none h hf]
theorem gt_bad {t : List OpnT} {γ : Nat → Bool} (h : GT t γ) {k : Nat} (hk : k < 16) : badD t (k : Int) = γ k := by
  obtain ⟨o, ho⟩ := ent_some h.1 hk
  have e := entD_at ho
  unfold badD
  rw [decide_eq_false (by omega), decide_eq_false (by omega), e, h.2 k o ho]
  simp
theorem gt_dup {t : List OpnT} {γ : Nat → Bool} (h : GT t γ) (hf : ∀ i, i < 16 → γ i = false) : dupF 3 t = (errD 9, none) := by
  have hb : badD t 3 = false := (gt_bad h (show 3 < 16 by decide)).trans (hf 3 (by decide))
  unfold dupF
  rw [if_neg (by rw [hb]; decide)]
  exact gt_full h hf _
theorem gt_close {t : List OpnT} {γ : Nat → Bool} (h : GT t γ) {k : Nat} (hk : k < 16) : (closeF (k : Int) t).1.E = (if γ k = true then 21 else 0) ∧ ∃ t', stepD (closeF (k : Int)) t = some t' ∧ GT t' (updB γ k true) := by
  have hb := gt_bad h hk
  cases hg : γ k with
  | true =>
    have e : closeF (k : Int) t = (errD 21, none) := if_pos (hb.trans hg)
    refine ⟨by rw [e]; rfl, t, stepD_no e, h.1, fun i o ho => ?_⟩
    unfold updB
    split
    · rename_i hi; rw [hi] at ho; exact (h.2 k o ho).trans hg
    · exact h.2 i o ho
  | false =>
    have e : closeF (k : Int) t = (⟨zeroTab, entD t (k : Int), 0, 0⟩, some (some (t.set k zeroO))) := if_neg (by rw [hb, hg]; decide)
    have := gt_set h k zeroO
    rw [isZ_zero] at this
    exact ⟨by rw [e]; rfl, _, stepD_of e, this⟩
theorem gt_zero : GT zeroTab (fun j => decide (0 ≤ j)) := ⟨zeroTab_len, fun i o ho => by
  have : o = zeroO := by
    have := List.mem_of_getElem? ho
    exact List.eq_of_mem_replicate this
  rw [this, isZ_zero]
  simp⟩
theorem GT.congr {t : List OpnT} {γ γ' : Nat → Bool} (h : GT t γ) (e : ∀ i, i < 16 → γ i = γ' i) : GT t γ' := ⟨h.1, fun i o ho => by
  have hi := (List.getElem?_eq_some_iff.1 ho).1
  exact (h.2 i o ho).trans (e i (by have := h.1; omega))⟩
/-- The array of Booleans. -/
def GoneAt (w : World) (R : Nat) (γ : Nat → Bool) : Prop := ∃ cs, w.heap[R]? = some (.cells cs 51 (0, 0)) ∧ cs.size = 16 ∧ ∀ i, i < 16 → cs[i]? = some (.bool (γ i))
theorem GoneAt.kept {w w' : World} {R : Nat} {γ : Nat → Bool} (h : GoneAt w R γ) (hk : w'.heap[R]? = w.heap[R]?) : GoneAt w' R γ := by
  obtain ⟨cs, h1, h2⟩ := h
  exact ⟨cs, hk.trans h1, h2⟩
theorem GoneAt.later {w w' : World} {R : Nat} {γ : Nat → Bool} (h : GoneAt w R γ) (hb : Below w.heap.size w w') : GoneAt w' R γ := by
  obtain ⟨cs, h1, h2⟩ := h
  exact ⟨cs, (hb.block _ (lt_of_heap h1)).trans h1, h2⟩
theorem GoneAt.cell {w : World} {R : Nat} {γ : Nat → Bool} (h : GoneAt w R γ) {i : Nat} (hi : i < 16) : w.cell? ⟨R, i, none⟩ = some (.bool (γ i)) := by
  obtain ⟨cs, h1, h2, h3⟩ := h
  exact (cell_of_heap h1 i).trans (h3 i hi)
theorem GoneAt.free {w : World} {R : Nat} {γ : Nat → Bool} (h : GoneAt w R γ) (i : Nat) : w.frozen? ⟨R, i, none⟩ = false := by
  obtain ⟨cs, h1, -⟩ := h
  exact frozen_of_heap h1 i
theorem GoneAt.set {w : World} {R : Nat} {γ : Nat → Bool} (h : GoneAt w R γ) (k : Nat) (b : Bool) : GoneAt (w.setCell ⟨R, k, none⟩ (.bool b)) R (updB γ k b) := by
  obtain ⟨cs, h1, h2, h3⟩ := h
  refine ⟨_, heap_setCell_same h1 k (.bool b), by simp [h2], fun i hi => ?_⟩
  rw [Array.getElem?_setIfInBounds]
  unfold updB
  by_cases e : k = i
  · subst e
    rw [if_pos rfl, if_pos (by omega), if_pos rfl]
  · rw [if_neg e, if_neg (fun x => e x.symm)]
    exact h3 i hi
theorem KV.set {w0 w : World} {b M k : Nat} {G : Nat → Prop} {u : Option (List OpnT)} (h : KV w0 w b M G k u) {R : Nat} (hR : G R) (i : Nat) (v : Value) : KV w0 (w.setCell ⟨R, i, none⟩ v) b M G k u := by
  obtain ⟨V, s, h1, h2⟩ := h
  exact ⟨V, s.guarded (Kept.of_grown (grown_setCell w R i v) G (fun k hk => by cases hk; exact hR)) (fun _ h => .inl h), h1, h2⟩
end Go.Proofs.YtfchfjipkggnkaaDoor
