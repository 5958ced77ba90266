/- Arguments of law 37: slices of Booleans. -/
import Derived.Test.YtalpkndlnfgjfaaDoorRowP
import Derived.Test.YtalpkndlnfgjfaaDoorPoqA
namespace Go.Proofs.YtalpkndlnfgjfaaDoor
open Go.ChangeShapes Go.WideShapes Go.ChangeAt Go.ChangeMaps Go.RowKit

theorem open_osl {H : Type} {enc : TypeId × Value → H} {W : World} {a : Option Addr} {n c : Nat} {d : DataW H} {p : List MemPlace} (h : DataW.Trod enc Tryd.prog W 0 (fun _ => true) true 39 (.slice a n c) d p) :
    ∃ bs, BSlQ W a n bs ∧ n ≤ maxLen := by
  obtain ⟨fuel, hf⟩ := h
  rcases Deep.open_bools Tryd.underlying39 Tryd.underlying4 cellsBool hf with ⟨hcs, hx⟩ | ⟨a1, len, cap, B, hcs, _, hl, hm, hx, hcell⟩
  · have : (Value.slice a n c) = .slice none 0 0 := by simpa [Value.cells] using hcs
    cases this
    exact ⟨[], ⟨rfl, fun h => absurd h (Nat.lt_irrefl _)⟩, Nat.zero_le _⟩
  · have : (Value.slice a n c) = .slice (some a1) len cap := by simpa [Value.cells] using hcs
    cases this
    refine ⟨(List.range n).map B, ⟨by simp, fun h0 => ?_⟩, Nat.le_trans hl hm⟩
    obtain ⟨g, off, rfl⟩ := paddr_at (hcell 0 (by omega))
    refine ⟨g, off, rfl, fun j hj => ?_⟩
    have h1 := hcell j (by omega)
    rw [padd_at] at h1
    rw [h1]
    simp [hj]

end Go.Proofs.YtalpkndlnfgjfaaDoor
