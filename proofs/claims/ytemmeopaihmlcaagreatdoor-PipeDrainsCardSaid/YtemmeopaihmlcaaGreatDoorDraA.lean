/- Law 32: a pipe without writers is drained: plain. -/
import Derived.Test.YtemmeopaihmlcaaGreatDoorPlyJ
namespace Go.Proofs.YtemmeopaihmlcaaGreatDoor
open Go.RowKit

theorem QM.sp {w0 w : World} {b M N : Nat} {V : AV} {G : Nat → Prop} {o : Option PipeT} (s : QM w0 w b M V G) (h : HoldsP V N o) : SP w0 w b N o G := by
  obtain ⟨⟨hh, hv, hn, h1, h2, h4⟩, h5⟩ := s
  exact ⟨⟨V, hh, hv, h1, h2, h, h4⟩, h5⟩
/-- A writer leaves. -/
theorem leave_step {e0 e1 e2 : Int} {e3 : ByteArray} (h1 : 0 < e1) (h2 : 0 < e2) : pStep (opLeave true) e0 (some ⟨e0, e1, e2, e3⟩) = (some ⟨e0, e1, e2 - 1, e3⟩, 0, 1) := by
  have ho : opLeave true ⟨e0, e1, e2, e3⟩ = (⟨e0, e1, e2 - 1, e3⟩, 0) := by
    unfold opLeave
    rw [if_pos rfl, if_neg (show ¬ e2 = 0 by omega)]
  simp only [pStep]
  rw [if_neg (by simp), ho]
  dsimp only
  rw [if_neg (by simp), if_neg (fun h => by have := (PipeT.mk.injEq _ _ _ _ _ _ _ _ ▸ h : e0 = e0 ∧ e1 = e1 ∧ e2 - 1 = e2 ∧ e3 = e3); omega), if_neg (fun h => by omega)]
theorem leave_none {e0 e1 : Int} {e3 : ByteArray} : pStep (opLeave true) e0 (some ⟨e0, e1, 0, e3⟩) = (some ⟨e0, e1, 0, e3⟩, 20, 0) := by
  have ho : opLeave true ⟨e0, e1, 0, e3⟩ = (⟨e0, e1, 0, e3⟩, 20) := by
    unfold opLeave
    rw [if_pos rfl, if_pos rfl]
  simp only [pStep]
  rw [if_neg (by simp), ho]
  dsimp only
  rw [if_pos (by simp)]
/-- A reader takes what is there, and the end. -/
theorem drain_step {e0 e1 n : Int} {e3 : ByteArray} (h1 : 0 < e1) (hn : 1 ≤ n) : ∃ e3' d, d ≤ 1 ∧ pStep (opRead n) e0 (some ⟨e0, e1, 0, e3⟩) = (some ⟨e0, e1, 0, e3'⟩, 0, d) ∧ e3 = readB n ⟨e0, e1, 0, e3⟩ ++ e3' ∧ e3'.size ≤ e3.size - 1 ∧ ((readB n ⟨e0, e1, 0, e3⟩).size : Int) ≤ n ∧ (readB n ⟨e0, e1, 0, e3⟩).size ≤ e3.size := by
  have ho : opRead n ⟨e0, e1, 0, e3⟩ = (⟨e0, e1, 0, e3.extract (min n.toNat e3.size) e3.size⟩, 0) := by
    unfold opRead
    rw [if_neg (by omega), if_neg (by simp)]
  have hr : readB n ⟨e0, e1, 0, e3⟩ = e3.extract 0 (min n.toNat e3.size) := rfl
  refine ⟨e3.extract (min n.toNat e3.size) e3.size, (pStep (opRead n) e0 (some ⟨e0, e1, 0, e3⟩)).2.2, pStep_le _ _ _, ?_, ?_, ?_, ?_, ?_⟩
  · simp only [pStep]
    rw [if_neg (by simp), ho]
    dsimp only
    rw [if_neg (by simp)]
    by_cases hs : (⟨e0, e1, 0, e3.extract (min n.toNat e3.size) e3.size⟩ : PipeT) = ⟨e0, e1, 0, e3⟩
    · rw [if_pos hs, hs]
    · rw [if_neg hs, if_neg (fun h => by omega)]
  · rw [hr]
    exact (split_at e3 _).symm
  · rw [ByteArray.size_extract]
    omega
  · rw [hr, ByteArray.size_extract]
    omega
  · rw [hr, ByteArray.size_extract]
    omega
theorem pStep_read_get {e0 e1 : Int} {e3 : ByteArray} : pHas e0 (some ⟨e0, e1, 0, e3⟩) = (⟨e0, e1, 0, e3⟩, 0) := if_neg (by simp)
theorem empty_bytes {x : ByteArray} (h : x.size = 0) : x = ⟨#[]⟩ := by
  obtain ⟨⟨l⟩⟩ := x
  simp [ByteArray.size] at h
  simp [h]
theorem play_some {p : PipeT} (h : p = zeroP ∨ checkP p = 0) (hr : p.readers ≠ 0) : checkP p = 0 := by
  rcases h with rfl | h
  · exact absurd rfl hr
  · exact h
end Go.Proofs.YtemmeopaihmlcaaGreatDoor
