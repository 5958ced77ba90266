/- Plain: a valid name has at most 56 bytes. -/
import Derived.Test.YtemmeopaihmlcaaDoorLinV
namespace Go.Proofs.YtemmeopaihmlcaaDoor
open Go.RowKit

theorem firstP_ok {bs : List UInt8} {pos count : Nat} (h : (firstP bs pos count).1.err = 0) : count ≠ 8 ∧ (firstP bs pos count).2 ≤ pos + 6 := by
  have hf : firstErr bs pos count = 0 := by
    unfold firstP at h
    by_cases h1 : firstErr bs pos count ≠ 0
    · rw [if_pos h1] at h; exact h
    · simpa using h1
  have hp : firstP bs pos count = (⟨decVal ((bs.drop pos).take (digCount 7 (bs.drop pos))), pos, 0⟩, pos + digCount 7 (bs.drop pos)) := by
    unfold firstP
    rw [if_neg (by rw [hf]; simp)]
  rw [hp]
  unfold firstErr at hf
  by_cases a1 : count = 8
  · rw [if_pos a1] at hf; cases hf
  rw [if_neg a1] at hf
  by_cases a2 : pos = bs.length
  · rw [if_pos a2] at hf; cases hf
  rw [if_neg a2] at hf
  by_cases a3 : digCount 7 (bs.drop pos) = 0
  · rw [if_pos a3] at hf; cases hf
  rw [if_neg a3] at hf
  by_cases a4 : (bs.getD pos 0).toNat = 48
  · rw [if_pos a4] at hf; cases hf
  rw [if_neg a4] at hf
  by_cases a5 : 6 < digCount 7 (bs.drop pos)
  · rw [if_pos a5] at hf; cases hf
  exact ⟨a1, by dsimp only; omega⟩
theorem partsL_small (bs : List UInt8) : ∀ (f pos count : Nat), 0 < f → f + count = 9 → (∀ p ∈ partsL bs f pos count, p.err = 0) → bs.length ≤ pos + 7 * (8 - count) := by
  intro f
  induction f with
  | zero => intro pos count h; omega
  | succ f ih =>
    intro pos count _ hc hall
    simp only [partsL] at hall
    by_cases h1 : (firstP bs pos count).1.err ≠ 0 ∨ (firstP bs pos count).2 = bs.length
    · rw [if_pos h1] at hall
      have h0 := hall (firstP bs pos count).1 (by simp)
      obtain ⟨h2, h3⟩ := firstP_ok h0
      rcases h1 with h1 | h1
      · exact absurd h0 h1
      · omega
    · rw [if_neg h1] at hall
      by_cases h4 : (bs.getD (firstP bs pos count).2 0).toNat ≠ 46
      · rw [if_pos h4] at hall
        have := hall ⟨0, (firstP bs pos count).2, 6⟩ (by simp)
        cases this
      · rw [if_neg h4] at hall
        have h0 := hall (firstP bs pos count).1 (by simp)
        obtain ⟨h2, h3⟩ := firstP_ok h0
        have := ih ((firstP bs pos count).2 + 1) (count + 1) (by omega) (by omega) (fun p hp => hall p (List.mem_cons_of_mem _ hp))
        omega
theorem valid_small {s : ByteArray} (h : validB s = true) : s.size ≤ 56 := by
  have hl : lineErr s.data.toList = 0 := by simpa [validB] using h
  have hall : ∀ p ∈ partsOf s.data.toList, p.err = 0 := by
    intro p hp
    unfold lineErr at hl
    cases hf : (partsOf s.data.toList).find? (fun p => decide (p.err ≠ 0)) with
    | none =>
      have := List.find?_eq_none.1 hf p hp
      simpa using this
    | some q =>
      rw [hf] at hl
      have := List.find?_some hf
      simp at this hl
      exact absurd hl this
  rw [← size_toList]
  unfold partsOf at hall
  by_cases h0 : s.data.toList = []
  · rw [h0]; simp
  · rw [if_neg h0] at hall
    have := partsL_small s.data.toList 9 0 0 (by decide) rfl hall
    omega

end Go.Proofs.YtemmeopaihmlcaaDoor
