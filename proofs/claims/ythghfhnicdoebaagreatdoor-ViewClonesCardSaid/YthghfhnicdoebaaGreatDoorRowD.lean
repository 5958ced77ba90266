/- Arguments that are slices of changes of the reference of layer 5, or of law 24's operations. -/
import Derived.Test.YthghfhnicdoebaaGreatDoorRowE
import Derived.Test.YthghfhnicdoebaaGreatDoorPvA
import Derived.Deep.Slices
namespace Go.Proofs.YthghfhnicdoebaaGreatDoor
open Go.ChangeShapes Go.WideShapes Go.ChangeAt Go.ChangeMaps Go.RowKit

theorem cadd_at (g off j : Nat) : (⟨g, off, none⟩ : Addr).add j = ⟨g, off + j, none⟩ := by unfold Addr.add; split <;> simp_all
theorem cspot_none {w : World} {a : Addr} {v : Value} (h : w.cell? a = some v) : a.spot = none := by
  unfold World.cell? at h
  split at h
  · split at h
    · cases h
    · rename_i h1
      simpa using h1
  · cases h
theorem caddr_at {w : World} {a : Addr} {v : Value} (h : w.cell? (a.add 0) = some v) : ∃ g off, a = ⟨g, off, none⟩ := by
  obtain ⟨g, off, el⟩ := a
  have := cspot_none h
  simp [Addr.add] at this
  exact ⟨g, off, by rw [this]⟩
theorem sevenL {cs : List Value} (h : cs.length = 7) : ∃ v0 v1 v2 v3 v4 v5 v6, cs = [v0, v1, v2, v3, v4, v5, v6] := by
  match cs, h with
  | [v0, v1, v2, v3, v4, v5, v6], _ => exact ⟨v0, v1, v2, v3, v4, v5, v6, rfl⟩
instance : Inhabited ChangeT := ⟨zeroC⟩
set_option maxRecDepth 100000 in
theorem open_c24s {H : Type} {enc : TypeId × Value → H} {W : World} {a : Option Addr} {n c : Nat} {d : DataW H} {p : List MemPlace} (h : DataW.Trod enc Tryz.prog W 0 (fun _ => true) true 22 (.slice a n c) d p) :
    ∃ f, C24Sl W a n f ∧ n ≤ maxLen := by
  obtain ⟨fuel, hf⟩ := h
  rcases Deep.open_slice Tryz.underlying22 hf with ⟨hcs, hx⟩ | ⟨a1, len, cap, m, fu, D, Pl, hcs, _, hl, hm, hmm, hx, hall⟩
  · have : (Value.slice a n c) = .slice none 0 0 := by simpa [Value.cells] using hcs
    cases this
    exact ⟨fun _ => default, fun h => absurd h (Nat.lt_irrefl _), Nat.zero_le _⟩
  · have : (Value.slice a n c) = .slice (some a1) len cap := by simpa [Value.cells] using hcs
    cases this
    simp only [if_true] at hmm
    subst hmm
    rw [cellsC5] at hall
    have each : ∀ i, i < n → ∃ o : ChangeT, W.cell? (a1.add (i * 7)) = some (.int .i64 o.name.kind) ∧ W.cell? (a1.add (i * 7 + 1)) = some (.string o.name.owner) ∧ W.cell? (a1.add (i * 7 + 2)) = some (.int .i64 o.name.number) ∧ W.cell? (a1.add (i * 7 + 3)) = some (.int .i64 o.name.index) ∧ W.cell? (a1.add (i * 7 + 4)) = some (.string o.name.text) ∧ W.cell? (a1.add (i * 7 + 5)) = some (.string o.value) ∧ W.cell? (a1.add (i * 7 + 6)) = some (.bool o.absent) ∧
        o.name.owner.size ≤ maxLen ∧ o.name.text.size ≤ maxLen ∧ o.value.size ≤ maxLen := by
      intro i hi
      obtain ⟨cs', h1, h2⟩ := hall i (by omega)
      obtain ⟨_, hlen, hcell⟩ := World.cells?_some h1
      obtain ⟨v0, v1, v2, v3, v4, v5, v6, rfl⟩ := sevenL hlen
      obtain ⟨o, rfl, rfl, rfl, rfl, rfl, rfl, rfl, b1, b4, b5⟩ := open_c5 h2
      have c0 := hcell 0 (by omega)
      have c1 := hcell 1 (by omega)
      have c2 := hcell 2 (by omega)
      have c3 := hcell 3 (by omega)
      have c4 := hcell 4 (by omega)
      have c5 := hcell 5 (by omega)
      have c6 := hcell 6 (by omega)
      rw [Deep.add_add] at c0 c1 c2 c3 c4 c5 c6
      exact ⟨o, by simpa using c0, by simpa using c1, by simpa using c2, by simpa using c3, by simpa using c4, by simpa using c5, by simpa using c6, b1, b4, b5⟩
    obtain ⟨f, hf'⟩ := Deep.choose_lt each
    refine ⟨f, fun h0 => ?_, Nat.le_trans hl hm⟩
    obtain ⟨g, off, rfl⟩ := caddr_at (by simpa only [Nat.zero_mul] using (hf' 0 h0).1)
    refine ⟨g, off, rfl, fun j hj => ?_⟩
    have := hf' j hj
    unfold maxLen at this
    simpa only [cadd_at, Nat.add_assoc] using this
theorem nineL {cs : List Value} (h : cs.length = 9) : ∃ v0 v1 v2 v3 v4 v5 v6 v7 v8, cs = [v0, v1, v2, v3, v4, v5, v6, v7, v8] := by
  match cs, h with
  | [v0, v1, v2, v3, v4, v5, v6, v7, v8], _ => exact ⟨v0, v1, v2, v3, v4, v5, v6, v7, v8, rfl⟩
theorem cellsOp24 : Tryz.prog.cellsOf 42 = 9 := by kernel_rfl
theorem cellsU8o : Tryz.prog.cellsOf 5 = 1 := by kernel_rfl
theorem underOp24 : ∃ fs, Tryz.prog.underlying 42 = some (.struct fs) ∧ fs.toList.map (fun f => (f.type, f.offset)) = [(5, 0), (40, 1), (3, 8)] := ⟨_, Tryz.underlying42, by kernel_rfl⟩
set_option maxRecDepth 100000 in
theorem open_op24 {H : Type} {enc : TypeId × Value → H} {W : World} {fuel : Nat} {v0 v1 v2 v3 v4 v5 v6 v7 v8 : Value} {x : DataW H × List MemPlace} (h : DataW.trod enc Tryz.prog W 0 (fun _ => true) true fuel 42 [v0, v1, v2, v3, v4, v5, v6, v7, v8] = some x) :
    ∃ o : OpV, v0 = .int .u8 o.kd ∧ v1 = .int .i64 o.c.name.kind ∧ v2 = .string o.c.name.owner ∧ v3 = .int .i64 o.c.name.number ∧ v4 = .int .i64 o.c.name.index ∧ v5 = .string o.c.name.text ∧ v6 = .string o.c.value ∧ v7 = .bool o.c.absent ∧ v8 = .int .i64 o.n ∧ o.kd ≤ 255 ∧ o.c.name.owner.size ≤ maxLen ∧ o.c.name.text.size ≤ maxLen ∧ o.c.value.size ≤ maxLen := by
  obtain ⟨k, hk⟩ := trod_fields underOp24 h
  obtain ⟨y0, g0⟩ := hk 0 _ _ rfl
  obtain ⟨y1, g1⟩ := hk 1 _ _ rfl
  obtain ⟨y2, g2⟩ := hk 2 _ _ rfl
  rw [cellsU8o] at g0
  rw [cellsC5] at g1
  rw [cellsEInt] at g2
  obtain ⟨z0, e0, _, w0⟩ := DataW.trod_int Tryz.underlying5 g0
  have g1' : DataW.trod enc Tryz.prog W 0 (fun _ => true) true k 40 [v1, v2, v3, v4, v5, v6, v7] = some y1 := by simpa using g1
  obtain ⟨c, rfl, rfl, rfl, rfl, rfl, rfl, rfl, b1, b2, b3⟩ := open_c5 g1'
  obtain ⟨z8, e8, _, w8⟩ := DataW.trod_int Tryz.underlying3 g2
  obtain rfl : v0 = .int .u8 z0 := by simpa using e0
  obtain rfl : v8 = .int .i64 z8 := by simpa using e8
  have b0 := bounds_u8 w0
  obtain ⟨m0, rfl⟩ := Int.eq_ofNat_of_zero_le b0.1
  exact ⟨⟨m0, c, z8⟩, rfl, rfl, rfl, rfl, rfl, rfl, rfl, rfl, rfl, by dsimp only; omega, b1, b2, b3⟩
set_option maxRecDepth 100000 in
theorem open_op24s {H : Type} {enc : TypeId × Value → H} {W : World} {a : Option Addr} {n c : Nat} {d : DataW H} {p : List MemPlace} (h : DataW.Trod enc Tryz.prog W 0 (fun _ => true) true 23 (.slice a n c) d p) :
    ∃ f, OpSlV W a n f ∧ n ≤ maxLen := by
  obtain ⟨fuel, hf⟩ := h
  rcases Deep.open_slice Tryz.underlying23 hf with ⟨hcs, hx⟩ | ⟨a1, len, cap, m, fu, D, Pl, hcs, _, hl, hm, hmm, hx, hall⟩
  · have : (Value.slice a n c) = .slice none 0 0 := by simpa [Value.cells] using hcs
    cases this
    exact ⟨fun _ => default, fun h => absurd h (Nat.lt_irrefl _), Nat.zero_le _⟩
  · have : (Value.slice a n c) = .slice (some a1) len cap := by simpa [Value.cells] using hcs
    cases this
    simp only [if_true] at hmm
    subst hmm
    rw [cellsOp24] at hall
    have each : ∀ i, i < n → ∃ o : OpV, W.cell? (a1.add (i * 9)) = some (.int .u8 o.kd) ∧ W.cell? (a1.add (i * 9 + 1)) = some (.int .i64 o.c.name.kind) ∧ W.cell? (a1.add (i * 9 + 2)) = some (.string o.c.name.owner) ∧ W.cell? (a1.add (i * 9 + 3)) = some (.int .i64 o.c.name.number) ∧ W.cell? (a1.add (i * 9 + 4)) = some (.int .i64 o.c.name.index) ∧ W.cell? (a1.add (i * 9 + 5)) = some (.string o.c.name.text) ∧ W.cell? (a1.add (i * 9 + 6)) = some (.string o.c.value) ∧ W.cell? (a1.add (i * 9 + 7)) = some (.bool o.c.absent) ∧ W.cell? (a1.add (i * 9 + 8)) = some (.int .i64 o.n) ∧
        o.kd ≤ 255 ∧ o.c.name.owner.size ≤ maxLen ∧ o.c.name.text.size ≤ maxLen ∧ o.c.value.size ≤ maxLen := by
      intro i hi
      obtain ⟨cs', h1, h2⟩ := hall i (by omega)
      obtain ⟨_, hlen, hcell⟩ := World.cells?_some h1
      obtain ⟨v0, v1, v2, v3, v4, v5, v6, v7, v8, rfl⟩ := nineL hlen
      obtain ⟨o, rfl, rfl, rfl, rfl, rfl, rfl, rfl, rfl, rfl, b0, b1, b4, b5⟩ := open_op24 h2
      have c0 := hcell 0 (by omega)
      have c1 := hcell 1 (by omega)
      have c2 := hcell 2 (by omega)
      have c3 := hcell 3 (by omega)
      have c4 := hcell 4 (by omega)
      have c5 := hcell 5 (by omega)
      have c6 := hcell 6 (by omega)
      have c7 := hcell 7 (by omega)
      have c8 := hcell 8 (by omega)
      rw [Deep.add_add] at c0 c1 c2 c3 c4 c5 c6 c7 c8
      exact ⟨o, by simpa using c0, by simpa using c1, by simpa using c2, by simpa using c3, by simpa using c4, by simpa using c5, by simpa using c6, by simpa using c7, by simpa using c8, b0, b1, b4, b5⟩
    obtain ⟨f, hf'⟩ := Deep.choose_lt each
    refine ⟨f, fun h0 => ?_, Nat.le_trans hl hm⟩
    obtain ⟨g, off, rfl⟩ := caddr_at (by simpa only [Nat.zero_mul] using (hf' 0 h0).1)
    refine ⟨g, off, rfl, fun j hj => ?_⟩
    have := hf' j hj
    unfold maxLen at this
    simpa only [cadd_at, Nat.add_assoc] using this
end Go.Proofs.YthghfhnicdoebaaGreatDoor
