/- Arguments that are slices of law 37's operations. -/
import Derived.Test.YtijfdgoeppehlaaGreatDoorRowQ
import Derived.Test.YtijfdgoeppehlaaGreatDoorPqA
import Derived.Deep.Slices
namespace Go.Proofs.YtijfdgoeppehlaaGreatDoor
open Go.ChangeShapes Go.WideShapes Go.ChangeAt Go.ChangeMaps Go.RowKit

theorem sadd_at (g off j : Nat) : (⟨g, off, none⟩ : Addr).add j = ⟨g, off + j, none⟩ := by unfold Addr.add; split <;> simp_all
theorem sspot_none {w : World} {a : Addr} {v : Value} (h : w.cell? a = some v) : a.spot = none := by
  unfold World.cell? at h
  split at h
  · split at h
    · cases h
    · rename_i h1
      simpa using h1
  · cases h
theorem saddr_at {w : World} {a : Addr} {v : Value} (h : w.cell? (a.add 0) = some v) : ∃ g off, a = ⟨g, off, none⟩ := by
  obtain ⟨g, off, el⟩ := a
  have := sspot_none h
  simp [Addr.add] at this
  exact ⟨g, off, by rw [this]⟩
theorem sevenQ {cs : List Value} (h : cs.length = 7) : ∃ v0 v1 v2 v3 v4 v5 v6, cs = [v0, v1, v2, v3, v4, v5, v6] := by
  match cs, h with
  | [v0, v1, v2, v3, v4, v5, v6], _ => exact ⟨v0, v1, v2, v3, v4, v5, v6, rfl⟩

set_option maxRecDepth 100000 in
theorem open_qopL {H : Type} {enc : TypeId × Value → H} {W : World} {fuel : Nat} {v0 v1 v2 v3 v4 v5 v6 : Value} {x : DataW H × List MemPlace} (h : DataW.trod enc Tryz.prog W 0 (fun _ => true) true fuel 35 [v0, v1, v2, v3, v4, v5, v6] = some x) :
    ∃ o : OpP, v0 = .int .u8 o.kd ∧ v1 = .int .u8 o.wh ∧ v2 = .int .u8 o.us ∧ v3 = .int .i64 o.nu ∧ v4 = .int .i64 o.ep ∧ v5 = .string o.sr ∧ v6 = .string o.by_ ∧ o.wh ≤ 255 ∧ o.sr.size ≤ maxLen ∧ o.by_.size ≤ maxLen := by
  obtain ⟨k, hk⟩ := trod_fields underQop h
  obtain ⟨y0, g0⟩ := hk 0 _ _ rfl
  obtain ⟨y1, g1⟩ := hk 1 _ _ rfl
  obtain ⟨y2, g2⟩ := hk 2 _ _ rfl
  obtain ⟨y3, g3⟩ := hk 3 _ _ rfl
  obtain ⟨y4, g4⟩ := hk 4 _ _ rfl
  obtain ⟨y5, g5⟩ := hk 5 _ _ rfl
  rw [cellsQU8] at g0 g1 g2
  rw [cellsInt] at g3 g4
  rw [cellsPack] at g5
  obtain ⟨z0, e0, _, w0⟩ := DataW.trod_int Tryz.underlying5 g0
  obtain ⟨z1, e1, _, w1⟩ := DataW.trod_int Tryz.underlying5 g1
  obtain ⟨z2, e2, _, w2⟩ := DataW.trod_int Tryz.underlying5 g2
  obtain ⟨z3, e3, _, w3⟩ := DataW.trod_int Tryz.underlying3 g3
  obtain ⟨z4, e4, _, w4⟩ := DataW.trod_int Tryz.underlying3 g4
  have g5' : DataW.trod enc Tryz.prog W 0 (fun _ => true) true k 33 [v5, v6] = some y5 := by simpa using g5
  obtain ⟨z5, z6, rfl, rfl, w5, w6⟩ := open_pack g5'
  obtain rfl : v0 = .int .u8 z0 := by simpa using e0
  obtain rfl : v1 = .int .u8 z1 := by simpa using e1
  obtain rfl : v2 = .int .u8 z2 := by simpa using e2
  obtain rfl : v3 = .int .i64 z3 := by simpa using e3
  obtain rfl : v4 = .int .i64 z4 := by simpa using e4
  have b0 := bounds_u8 w0
  have b1 := bounds_u8 w1
  have b2 := bounds_u8 w2
  obtain ⟨m0, rfl⟩ := Int.eq_ofNat_of_zero_le b0.1
  obtain ⟨m1, rfl⟩ := Int.eq_ofNat_of_zero_le b1.1
  obtain ⟨m2, rfl⟩ := Int.eq_ofNat_of_zero_le b2.1
  exact ⟨⟨m0, m1, m2, z3, z4, z5, z6⟩, rfl, rfl, rfl, rfl, rfl, rfl, rfl, by dsimp only; omega, w5, w6⟩

set_option maxRecDepth 100000 in
theorem open_qops {H : Type} {enc : TypeId × Value → H} {W : World} {a : Option Addr} {n c : Nat} {d : DataW H} {p : List MemPlace} (h : DataW.Trod enc Tryz.prog W 0 (fun _ => true) true 22 (.slice a n c) d p) :
    ∃ f, OpSlP W a n f ∧ n ≤ maxLen := by
  obtain ⟨fuel, hf⟩ := h
  rcases Deep.open_slice Tryz.underlying22 hf with ⟨hcs, hx⟩ | ⟨a1, len, cap, m, fu, D, Pl, hcs, _, hl, hm, hmm, hx, hall⟩
  · have : (Value.slice a n c) = .slice none 0 0 := by simpa [Value.cells] using hcs
    cases this
    exact ⟨fun _ => default, fun h => absurd h (Nat.lt_irrefl _), Nat.zero_le _⟩
  · have : (Value.slice a n c) = .slice (some a1) len cap := by simpa [Value.cells] using hcs
    cases this
    simp only [if_true] at hmm
    subst hmm
    rw [cellsQop] at hall
    have each : ∀ i, i < n → ∃ o : OpP, W.cell? (a1.add (i * 7)) = some (.int .u8 o.kd) ∧ W.cell? (a1.add (i * 7 + 1)) = some (.int .u8 o.wh) ∧ W.cell? (a1.add (i * 7 + 2)) = some (.int .u8 o.us) ∧ W.cell? (a1.add (i * 7 + 3)) = some (.int .i64 o.nu) ∧ W.cell? (a1.add (i * 7 + 4)) = some (.int .i64 o.ep) ∧ W.cell? (a1.add (i * 7 + 5)) = some (.string o.sr) ∧ W.cell? (a1.add (i * 7 + 6)) = some (.string o.by_) ∧
        o.wh ≤ 255 ∧ o.sr.size ≤ maxLen ∧ o.by_.size ≤ maxLen := by
      intro i hi
      obtain ⟨cs', h1, h2⟩ := hall i (by omega)
      obtain ⟨_, hlen, hcell⟩ := World.cells?_some h1
      obtain ⟨v0, v1, v2, v3, v4, v5, v6, rfl⟩ := sevenQ hlen
      obtain ⟨o, rfl, rfl, rfl, rfl, rfl, rfl, rfl, b1, b4, b5⟩ := open_qopL h2
      have c0 := hcell 0 (by omega)
      have c1 := hcell 1 (by omega)
      have c2 := hcell 2 (by omega)
      have c3 := hcell 3 (by omega)
      have c4 := hcell 4 (by omega)
      have c5 := hcell 5 (by omega)
      have c6 := hcell 6 (by omega)
      rw [Deep.add_add] at c0 c1 c2 c3 c4 c5 c6
      exact ⟨o, by simpa using c0, by simpa using c1, by simpa using c2, by simpa using c3, by simpa using c4, by simpa using c5, by simpa using c6, b1, b4, b5⟩
    obtain ⟨f, hf'⟩ := Deep.choose_lt each
    refine ⟨f, fun h0 => ?_, Nat.le_trans hl hm⟩
    obtain ⟨g, off, rfl⟩ := saddr_at (by simpa only [Nat.zero_mul] using (hf' 0 h0).1)
    refine ⟨g, off, rfl, fun j hj => ?_⟩
    have := hf' j hj
    unfold maxLen at this
    simpa only [sadd_at, Nat.add_assoc] using this
end Go.Proofs.YtijfdgoeppehlaaGreatDoor
