/- Arguments that are slices of strings or bools. -/
import Derived.Test.YtmknhokjpmjkkaaDoorRowV
import Derived.Test.YtmknhokjpmjkkaaDoorLawL
import Derived.SliceStrings
import Derived.Deep.Grids
namespace Go.Proofs.YtmknhokjpmjkkaaDoor
open Go.ChangeShapes Go.WideShapes Go.ChangeAt Go.ChangeMaps Go.RowKit

theorem add_at (g off j : Nat) : (⟨g, off, none⟩ : Addr).add j = ⟨g, off + j, none⟩ := by unfold Addr.add; split <;> simp_all
theorem spot_none {w : World} {a : Addr} {v : Value} (h : w.cell? a = some v) : a.spot = none := by
  unfold World.cell? at h
  split at h
  · split at h
    · cases h
    · rename_i h1
      simpa using h1
  · cases h
theorem addr_at {w : World} {a : Addr} {v : Value} (h : w.cell? (a.add 0) = some v) : ∃ g off, a = ⟨g, off, none⟩ := by
  obtain ⟨g, off, el⟩ := a
  have := spot_none h
  simp [Addr.add] at this
  exact ⟨g, off, by rw [this]⟩

theorem open_ssl {H : Type} {enc : TypeId × Value → H} {W : World} {a : Option Addr} {n c : Nat} {d : DataW H} {p : List MemPlace} (h : DataW.Trod enc Tryd.prog W 0 (fun _ => true) true 22 (.slice a n c) d p) :
    ∃ ls, SSl W a n ls ∧ (∀ s ∈ ls, s.size ≤ maxLen) ∧ n ≤ maxLen := by
  obtain ⟨fuel, hf⟩ := h
  rcases open_strings Tryd.underlying22 Tryd.underlying9 cellsStr hf with ⟨hcs, hx⟩ | ⟨a1, len, cap, ss, hcs, _, hl, hm, hz, hx, hcell, hws⟩
  · have : (Value.slice a n c) = .slice none 0 0 := by simpa [Value.cells] using hcs
    cases this
    exact ⟨[], ⟨rfl, fun h => absurd h (Nat.lt_irrefl _)⟩, (fun s hs => by simp at hs), Nat.zero_le _⟩
  · have : (Value.slice a n c) = .slice (some a1) len cap := by simpa [Value.cells] using hcs
    cases this
    simp only [if_true] at hz
    refine ⟨ss.take n, ⟨by simp; omega, fun h0 => ?_⟩, fun s hs => hws s (List.mem_of_mem_take hs), Nat.le_trans hl hm⟩
    obtain ⟨g, off, rfl⟩ := addr_at (hcell 0 (by omega))
    refine ⟨g, off, rfl, fun j hj => ?_⟩
    have h1 := hcell j (by omega)
    rw [add_at] at h1
    rw [h1]
    congr 2
    simp [List.getD_eq_getElem?_getD, hj]
    rfl

theorem open_osl {H : Type} {enc : TypeId × Value → H} {W : World} {a : Option Addr} {n c : Nat} {d : DataW H} {p : List MemPlace} (h : DataW.Trod enc Tryd.prog W 0 (fun _ => true) true 23 (.slice a n c) d p) :
    ∃ bs, OSl W a n bs ∧ n ≤ maxLen := by
  obtain ⟨fuel, hf⟩ := h
  rcases Deep.open_bools Tryd.underlying23 Tryd.underlying4 cellsBool hf with ⟨hcs, hx⟩ | ⟨a1, len, cap, B, hcs, _, hl, hm, hx, hcell⟩
  · have : (Value.slice a n c) = .slice none 0 0 := by simpa [Value.cells] using hcs
    cases this
    exact ⟨[], ⟨rfl, fun h => absurd h (Nat.lt_irrefl _)⟩, Nat.zero_le _⟩
  · have : (Value.slice a n c) = .slice (some a1) len cap := by simpa [Value.cells] using hcs
    cases this
    refine ⟨(List.range n).map B, ⟨by simp, fun h0 => ?_⟩, Nat.le_trans hl hm⟩
    obtain ⟨g, off, rfl⟩ := addr_at (hcell 0 (by omega))
    refine ⟨g, off, rfl, fun j hj => ?_⟩
    have h1 := hcell j (by omega)
    rw [add_at] at h1
    rw [h1]
    simp [hj]

end Go.Proofs.YtmknhokjpmjkkaaDoor
