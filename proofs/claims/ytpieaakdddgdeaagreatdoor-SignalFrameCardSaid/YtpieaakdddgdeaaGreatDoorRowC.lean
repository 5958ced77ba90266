/- Arguments that are changes of the reference of layer 5. -/
import Derived.Test.YtpieaakdddgdeaaGreatDoorRowZ
import Derived.Test.YtpieaakdddgdeaaGreatDoorToA
import Derived.Deep.Slices
namespace Go.Proofs.YtpieaakdddgdeaaGreatDoor
open Go.ChangeShapes Go.WideShapes Go.ChangeAt Go.ChangeMaps Go.RowKit

theorem cadd_at (g off j : Nat) : (⟨g, off, none⟩ : Addr).add j = ⟨g, off + j, none⟩ := by unfold Addr.add; split <;> simp_all
theorem cspot_none {w : World} {a : Addr} {v : Value} (h : w.cell? a = some v) : a.spot = none := by
  unfold World.cell? at h
  split at h
  · split at h
    · cases h
    · rename_i h1
      simpa using h1
  · cases h
theorem caddr_at {w : World} {a : Addr} {v : Value} (h : w.cell? (a.add 0) = some v) : ∃ g off, a = ⟨g, off, none⟩ := by
  obtain ⟨g, off, el⟩ := a
  have := cspot_none h
  simp [Addr.add] at this
  exact ⟨g, off, by rw [this]⟩
theorem sevenL {cs : List Value} (h : cs.length = 7) : ∃ v0 v1 v2 v3 v4 v5 v6, cs = [v0, v1, v2, v3, v4, v5, v6] := by
  match cs, h with
  | [v0, v1, v2, v3, v4, v5, v6], _ => exact ⟨v0, v1, v2, v3, v4, v5, v6, rfl⟩
instance : Inhabited ChangeT := ⟨noChg⟩
theorem cellsC5 : Tryz.prog.cellsOf 84 = 7 := by kernel_rfl
theorem cellsC4 : Tryz.prog.cellsOf 82 = 5 := by kernel_rfl
theorem cellsCStr : Tryz.prog.cellsOf 9 = 1 := by kernel_rfl
theorem underC5 : ∃ fs, Tryz.prog.underlying 84 = some (.struct fs) ∧ fs.toList.map (fun f => (f.type, f.offset)) = [(82, 0), (9, 5), (4, 6)] := ⟨_, Tryz.underlying84, by kernel_rfl⟩
theorem underC4 : ∃ fs, Tryz.prog.underlying 82 = some (.struct fs) ∧ fs.toList.map (fun f => (f.type, f.offset)) = [(3, 0), (9, 1), (3, 2), (3, 3), (9, 4)] := ⟨_, Tryz.underlying82, by kernel_rfl⟩
set_option maxRecDepth 100000 in
theorem open_c5 {H : Type} {enc : TypeId × Value → H} {W : World} {fuel : Nat} {v0 v1 v2 v3 v4 v5 v6 : Value} {x : DataW H × List MemPlace} (h : DataW.trod enc Tryz.prog W 0 (fun _ => true) true fuel 84 [v0, v1, v2, v3, v4, v5, v6] = some x) :
    ∃ c : ChangeT, v0 = .int .i64 c.name.kind ∧ v1 = .string c.name.owner ∧ v2 = .int .i64 c.name.number ∧ v3 = .int .i64 c.name.index ∧ v4 = .string c.name.text ∧ v5 = .string c.value ∧ v6 = .bool c.absent ∧ c.name.owner.size ≤ maxLen ∧ c.name.text.size ≤ maxLen ∧ c.value.size ≤ maxLen := by
  obtain ⟨k, hk⟩ := trod_fields underC5 h
  obtain ⟨y0, g0⟩ := hk 0 _ _ rfl
  obtain ⟨y1, g1⟩ := hk 1 _ _ rfl
  obtain ⟨y2, g2⟩ := hk 2 _ _ rfl
  rw [cellsC4] at g0
  rw [cellsCStr] at g1
  rw [cellsSBool] at g2
  obtain ⟨m, hm⟩ := trod_fields underC4 g0
  obtain ⟨z0, n0⟩ := hm 0 _ _ rfl
  obtain ⟨z1, n1⟩ := hm 1 _ _ rfl
  obtain ⟨z2, n2⟩ := hm 2 _ _ rfl
  obtain ⟨z3, n3⟩ := hm 3 _ _ rfl
  obtain ⟨z4, n4⟩ := hm 4 _ _ rfl
  rw [cellsSInt] at n0 n2 n3
  rw [cellsCStr] at n1 n4
  obtain ⟨s5, e5, _, w5⟩ := DataW.trod_string Tryz.underlying9 g1
  obtain ⟨s6, e6, _⟩ := DataW.trod_bool Tryz.underlying4 g2
  obtain ⟨s0, e0, _, _⟩ := DataW.trod_int Tryz.underlying3 n0
  obtain ⟨s1, e1, _, w1⟩ := DataW.trod_string Tryz.underlying9 n1
  obtain ⟨s2, e2, _, _⟩ := DataW.trod_int Tryz.underlying3 n2
  obtain ⟨s3, e3, _, _⟩ := DataW.trod_int Tryz.underlying3 n3
  obtain ⟨s4, e4, _, w4⟩ := DataW.trod_string Tryz.underlying9 n4
  exact ⟨⟨⟨s0, s1, s2, s3, s4⟩, s5, s6⟩, by simpa using e0, by simpa using e1, by simpa using e2, by simpa using e3, by simpa using e4, by simpa using e5, by simpa using e6, w1, w4, w5⟩

set_option maxRecDepth 100000 in
theorem open_c5s {H : Type} {enc : TypeId × Value → H} {W : World} {a : Option Addr} {n c : Nat} {d : DataW H} {p : List MemPlace} (h : DataW.Trod enc Tryz.prog W 0 (fun _ => true) true 58 (.slice a n c) d p) :
    ∃ f, C05Sl W a n f ∧ n ≤ maxLen := by
  obtain ⟨fuel, hf⟩ := h
  rcases Deep.open_slice Tryz.underlying58 hf with ⟨hcs, hx⟩ | ⟨a1, len, cap, m, fu, D, Pl, hcs, _, hl, hm, hmm, hx, hall⟩
  · have : (Value.slice a n c) = .slice none 0 0 := by simpa [Value.cells] using hcs
    cases this
    exact ⟨fun _ => default, fun h => absurd h (Nat.lt_irrefl _), Nat.zero_le _⟩
  · have : (Value.slice a n c) = .slice (some a1) len cap := by simpa [Value.cells] using hcs
    cases this
    simp only [if_true] at hmm
    subst hmm
    rw [cellsC5] at hall
    have each : ∀ i, i < n → ∃ o : ChangeT, W.cell? (a1.add (i * 7)) = some (.int .i64 o.name.kind) ∧ W.cell? (a1.add (i * 7 + 1)) = some (.string o.name.owner) ∧ W.cell? (a1.add (i * 7 + 2)) = some (.int .i64 o.name.number) ∧ W.cell? (a1.add (i * 7 + 3)) = some (.int .i64 o.name.index) ∧ W.cell? (a1.add (i * 7 + 4)) = some (.string o.name.text) ∧ W.cell? (a1.add (i * 7 + 5)) = some (.string o.value) ∧ W.cell? (a1.add (i * 7 + 6)) = some (.bool o.absent) ∧
        o.name.owner.size ≤ maxLen ∧ o.name.text.size ≤ maxLen ∧ o.value.size ≤ maxLen := by
      intro i hi
      obtain ⟨cs', h1, h2⟩ := hall i (by omega)
      obtain ⟨_, hlen, hcell⟩ := World.cells?_some h1
      obtain ⟨v0, v1, v2, v3, v4, v5, v6, rfl⟩ := sevenL hlen
      obtain ⟨o, rfl, rfl, rfl, rfl, rfl, rfl, rfl, b1, b4, b5⟩ := open_c5 h2
      have c0 := hcell 0 (by omega)
      have c1 := hcell 1 (by omega)
      have c2 := hcell 2 (by omega)
      have c3 := hcell 3 (by omega)
      have c4 := hcell 4 (by omega)
      have c5 := hcell 5 (by omega)
      have c6 := hcell 6 (by omega)
      rw [Deep.add_add] at c0 c1 c2 c3 c4 c5 c6
      exact ⟨o, by simpa using c0, by simpa using c1, by simpa using c2, by simpa using c3, by simpa using c4, by simpa using c5, by simpa using c6, b1, b4, b5⟩
    obtain ⟨f, hf'⟩ := Deep.choose_lt each
    refine ⟨f, fun h0 => ?_, Nat.le_trans hl hm⟩
    obtain ⟨g, off, rfl⟩ := caddr_at (by simpa only [Nat.zero_mul] using (hf' 0 h0).1)
    refine ⟨g, off, rfl, fun j hj => ?_⟩
    have := hf' j hj
    unfold maxLen at this
    simpa only [cadd_at, Nat.add_assoc] using this
end Go.Proofs.YtpieaakdddgdeaaGreatDoor
