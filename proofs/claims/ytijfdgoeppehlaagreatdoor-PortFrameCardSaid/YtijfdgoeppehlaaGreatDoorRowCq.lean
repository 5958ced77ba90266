/- Arguments that are slices of changes of the reference of layer 5. -/
import Derived.Test.YtijfdgoeppehlaaGreatDoorRowE
import Derived.Test.YtijfdgoeppehlaaGreatDoorToA
import Derived.Deep.Slices
namespace Go.Proofs.YtijfdgoeppehlaaGreatDoor
open Go.ChangeShapes Go.WideShapes Go.ChangeAt Go.ChangeMaps Go.RowKit

theorem cadd_at (g off j : Nat) : (⟨g, off, none⟩ : Addr).add j = ⟨g, off + j, none⟩ := by unfold Addr.add; split <;> simp_all
theorem cspot_none {w : World} {a : Addr} {v : Value} (h : w.cell? a = some v) : a.spot = none := by
  unfold World.cell? at h
  split at h
  · split at h
    · cases h
    · rename_i h1
      simpa using h1
  · cases h
theorem caddr_at {w : World} {a : Addr} {v : Value} (h : w.cell? (a.add 0) = some v) : ∃ g off, a = ⟨g, off, none⟩ := by
  obtain ⟨g, off, el⟩ := a
  have := cspot_none h
  simp [Addr.add] at this
  exact ⟨g, off, by rw [this]⟩
theorem sevenL {cs : List Value} (h : cs.length = 7) : ∃ v0 v1 v2 v3 v4 v5 v6, cs = [v0, v1, v2, v3, v4, v5, v6] := by
  match cs, h with
  | [v0, v1, v2, v3, v4, v5, v6], _ => exact ⟨v0, v1, v2, v3, v4, v5, v6, rfl⟩
instance : Inhabited ChangeT := ⟨noChg⟩
set_option maxRecDepth 100000 in
theorem open_c5s {H : Type} {enc : TypeId × Value → H} {W : World} {a : Option Addr} {n c : Nat} {d : DataW H} {p : List MemPlace} (h : DataW.Trod enc Tryz.prog W 0 (fun _ => true) true 38 (.slice a n c) d p) :
    ∃ f, C05Sl W a n f ∧ n ≤ maxLen := by
  obtain ⟨fuel, hf⟩ := h
  rcases Deep.open_slice Tryz.underlying38 hf with ⟨hcs, hx⟩ | ⟨a1, len, cap, m, fu, D, Pl, hcs, _, hl, hm, hmm, hx, hall⟩
  · have : (Value.slice a n c) = .slice none 0 0 := by simpa [Value.cells] using hcs
    cases this
    exact ⟨fun _ => default, fun h => absurd h (Nat.lt_irrefl _), Nat.zero_le _⟩
  · have : (Value.slice a n c) = .slice (some a1) len cap := by simpa [Value.cells] using hcs
    cases this
    simp only [if_true] at hmm
    subst hmm
    rw [cellsC5] at hall
    have each : ∀ i, i < n → ∃ o : ChangeT, W.cell? (a1.add (i * 7)) = some (.int .i64 o.name.kind) ∧ W.cell? (a1.add (i * 7 + 1)) = some (.string o.name.owner) ∧ W.cell? (a1.add (i * 7 + 2)) = some (.int .i64 o.name.number) ∧ W.cell? (a1.add (i * 7 + 3)) = some (.int .i64 o.name.index) ∧ W.cell? (a1.add (i * 7 + 4)) = some (.string o.name.text) ∧ W.cell? (a1.add (i * 7 + 5)) = some (.string o.value) ∧ W.cell? (a1.add (i * 7 + 6)) = some (.bool o.absent) ∧
        o.name.owner.size ≤ maxLen ∧ o.name.text.size ≤ maxLen ∧ o.value.size ≤ maxLen := by
      intro i hi
      obtain ⟨cs', h1, h2⟩ := hall i (by omega)
      obtain ⟨_, hlen, hcell⟩ := World.cells?_some h1
      obtain ⟨v0, v1, v2, v3, v4, v5, v6, rfl⟩ := sevenL hlen
      obtain ⟨o, rfl, rfl, rfl, rfl, rfl, rfl, rfl, b1, b4, b5⟩ := open_c5 h2
      have c0 := hcell 0 (by omega)
      have c1 := hcell 1 (by omega)
      have c2 := hcell 2 (by omega)
      have c3 := hcell 3 (by omega)
      have c4 := hcell 4 (by omega)
      have c5 := hcell 5 (by omega)
      have c6 := hcell 6 (by omega)
      rw [Deep.add_add] at c0 c1 c2 c3 c4 c5 c6
      exact ⟨o, by simpa using c0, by simpa using c1, by simpa using c2, by simpa using c3, by simpa using c4, by simpa using c5, by simpa using c6, b1, b4, b5⟩
    obtain ⟨f, hf'⟩ := Deep.choose_lt each
    refine ⟨f, fun h0 => ?_, Nat.le_trans hl hm⟩
    obtain ⟨g, off, rfl⟩ := caddr_at (by simpa only [Nat.zero_mul] using (hf' 0 h0).1)
    refine ⟨g, off, rfl, fun j hj => ?_⟩
    have := hf' j hj
    unfold maxLen at this
    simpa only [cadd_at, Nat.add_assoc] using this
end Go.Proofs.YtijfdgoeppehlaaGreatDoor
