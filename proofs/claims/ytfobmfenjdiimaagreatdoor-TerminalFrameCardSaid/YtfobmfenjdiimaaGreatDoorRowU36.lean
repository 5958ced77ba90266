/- Arguments of law 36: operations. -/
import Derived.Test.YtfobmfenjdiimaaGreatDoorRowE
import Derived.Test.YtfobmfenjdiimaaGreatDoorDotA
import Derived.Deep.Slices
namespace Go.Proofs.YtfobmfenjdiimaaGreatDoor
open Go.ChangeShapes Go.WideShapes Go.ChangeAt Go.ChangeMaps Go.RowKit

theorem uadd_at (g off j : Nat) : (⟨g, off, none⟩ : Addr).add j = ⟨g, off + j, none⟩ := by unfold Addr.add; split <;> simp_all
theorem uspot_none {w : World} {a : Addr} {v : Value} (h : w.cell? a = some v) : a.spot = none := by
  unfold World.cell? at h
  split at h
  · split at h
    · cases h
    · rename_i h1
      simpa using h1
  · cases h
theorem uaddr_at {w : World} {a : Addr} {v : Value} (h : w.cell? (a.add 0) = some v) : ∃ g off, a = ⟨g, off, none⟩ := by
  obtain ⟨g, off, el⟩ := a
  have := uspot_none h
  simp [Addr.add] at this
  exact ⟨g, off, by rw [this]⟩
theorem fiveU {cs : List Value} (h : cs.length = 5) : ∃ v0 v1 v2 v3 v4, cs = [v0, v1, v2, v3, v4] := by
  match cs, h with
  | [v0, v1, v2, v3, v4], _ => exact ⟨v0, v1, v2, v3, v4, rfl⟩
theorem fiveA {cs : Array Value} (h : cs.size = 5) : ∃ v0 v1 v2 v3 v4, cs = #[v0, v1, v2, v3, v4] := by
  obtain ⟨l⟩ := cs
  obtain ⟨v0, v1, v2, v3, v4, rfl⟩ := fiveU (cs := l) (by simpa using h)
  exact ⟨v0, v1, v2, v3, v4, rfl⟩
theorem cellsUU8 : Tryz.prog.cellsOf 5 = 1 := by kernel_rfl
theorem cellsUInt : Tryz.prog.cellsOf 3 = 1 := by kernel_rfl
theorem cellsUStr : Tryz.prog.cellsOf 9 = 1 := by kernel_rfl
theorem cellsUop : Tryz.prog.cellsOf 23 = 5 := by kernel_rfl
theorem underUop : ∃ fs, Tryz.prog.underlying 23 = some (.struct fs) ∧ fs.toList.map (fun f => (f.type, f.offset)) = [(5, 0), (3, 1), (3, 2), (9, 3), (9, 4)] := ⟨_, Tryz.underlying23, by kernel_rfl⟩
set_option maxRecDepth 100000 in
theorem open_uopL {H : Type} {enc : TypeId × Value → H} {W : World} {fuel : Nat} {v0 v1 v2 v3 v4 : Value} {x : DataW H × List MemPlace} (h : DataW.trod enc Tryz.prog W 0 (fun _ => true) true fuel 23 [v0, v1, v2, v3, v4] = some x) :
    ∃ o : OpU, v0 = .int .u8 o.kd ∧ v1 = .int .i64 o.num ∧ v2 = .int .i64 o.ep ∧ v3 = .string o.who ∧ v4 = .string o.text ∧ o.kd ≤ 255 ∧ o.who.size ≤ maxLen ∧ o.text.size ≤ maxLen := by
  obtain ⟨k, hk⟩ := trod_fields underUop h
  obtain ⟨y0, g0⟩ := hk 0 _ _ rfl
  obtain ⟨y1, g1⟩ := hk 1 _ _ rfl
  obtain ⟨y2, g2⟩ := hk 2 _ _ rfl
  obtain ⟨y3, g3⟩ := hk 3 _ _ rfl
  obtain ⟨y4, g4⟩ := hk 4 _ _ rfl
  rw [cellsUU8] at g0
  rw [cellsUInt] at g1 g2
  rw [cellsUStr] at g3 g4
  obtain ⟨z0, e0, _, w0⟩ := DataW.trod_int Tryz.underlying5 g0
  obtain ⟨z1, e1, _, w1⟩ := DataW.trod_int Tryz.underlying3 g1
  obtain ⟨z2, e2, _, w2⟩ := DataW.trod_int Tryz.underlying3 g2
  obtain ⟨z3, e3, _, w3⟩ := DataW.trod_string Tryz.underlying9 g3
  obtain ⟨z4, e4, _, w4⟩ := DataW.trod_string Tryz.underlying9 g4
  obtain rfl : v0 = .int .u8 z0 := by simpa using e0
  obtain rfl : v1 = .int .i64 z1 := by simpa using e1
  obtain rfl : v2 = .int .i64 z2 := by simpa using e2
  obtain rfl : v3 = .string z3 := by simpa using e3
  obtain rfl : v4 = .string z4 := by simpa using e4
  have b0 := bounds_u8 w0
  obtain ⟨m0, rfl⟩ := Int.eq_ofNat_of_zero_le b0.1
  exact ⟨⟨m0, z1, z2, z3, z4⟩, rfl, rfl, rfl, rfl, rfl, by dsimp only; omega, w3, w4⟩
set_option maxRecDepth 100000 in
theorem open_opu {H : Type} {enc : TypeId × Value → H} {W : World} {base : Nat} {v : Value} {d : DataW H} {p : List MemPlace} (hv : Value.okWide Tryz.prog W .any base 23 v) (h : DataW.Trod enc Tryz.prog W 0 (fun _ => true) true 23 v d p) :
    ∃ o : OpU, v = opuV o ∧ (o.kd ≤ 255 ∧ o.who.size ≤ maxLen ∧ o.text.size ≤ maxLen) := by
  obtain ⟨fs, hfs, hmap⟩ := underUop
  obtain ⟨cs, rfl, hsz⟩ := okWide_struct hfs hv
  obtain ⟨fuel, hf⟩ := h
  rw [cellsUop] at hsz
  obtain ⟨v0, v1, v2, v3, v4, rfl⟩ := fiveA hsz
  have hf' : DataW.trod enc Tryz.prog W 0 (fun _ => true) true fuel 23 [v0, v1, v2, v3, v4] = some (d, p) := by simpa [Value.cells] using hf
  obtain ⟨o, rfl, rfl, rfl, rfl, rfl, h1, h2, h3⟩ := open_uopL hf'
  exact ⟨o, rfl, h1, h2, h3⟩
/-- A slice of operations that can be read. -/
def OpSlU (w : World) (a : Option Addr) (n : Nat) (f : Nat → OpU) : Prop :=
  0 < n → ∃ g off, a = some ⟨g, off, none⟩ ∧ ∀ j, j < n → w.cell? ⟨g, off + j * 5, none⟩ = some (.int .u8 (f j).kd) ∧ w.cell? ⟨g, off + j * 5 + 1, none⟩ = some (.int .i64 (f j).num) ∧ w.cell? ⟨g, off + j * 5 + 2, none⟩ = some (.int .i64 (f j).ep) ∧ w.cell? ⟨g, off + j * 5 + 3, none⟩ = some (.string (f j).who) ∧ w.cell? ⟨g, off + j * 5 + 4, none⟩ = some (.string (f j).text) ∧
    (f j).kd ≤ 255 ∧ (f j).who.size ≤ 9223372036854775807 ∧ (f j).text.size ≤ 9223372036854775807
theorem OpSlU.later {w w' : World} {a : Option Addr} {n : Nat} {f : Nat → OpU} (h : OpSlU w a n f) (hb : Below w.heap.size w w') : OpSlU w' a n f := fun h0 => by
  obtain ⟨g, off, rfl, hc⟩ := h h0
  have hg : g < w.heap.size := World.block_lt_of_cell? w _ (hc 0 h0).1
  refine ⟨g, off, rfl, fun j hj => ?_⟩
  obtain ⟨c0, c1, c2, c3, c4, c5⟩ := hc j hj
  exact ⟨((bcell hb).1 _ _ hg).trans c0, ((bcell hb).1 _ _ hg).trans c1, ((bcell hb).1 _ _ hg).trans c2, ((bcell hb).1 _ _ hg).trans c3, ((bcell hb).1 _ _ hg).trans c4, c5⟩
instance : Inhabited OpU := ⟨⟨0, 0, 0, ⟨#[]⟩, ⟨#[]⟩⟩⟩
set_option maxRecDepth 100000 in
theorem open_opus {H : Type} {enc : TypeId × Value → H} {W : World} {a : Option Addr} {n c : Nat} {d : DataW H} {p : List MemPlace} (h : DataW.Trod enc Tryz.prog W 0 (fun _ => true) true 50 (.slice a n c) d p) :
    ∃ f, OpSlU W a n f ∧ n ≤ maxLen := by
  obtain ⟨fuel, hf⟩ := h
  rcases Deep.open_slice Tryz.underlying50 hf with ⟨hcs, hx⟩ | ⟨a1, len, cap, m, fu, D, Pl, hcs, _, hl, hm, hmm, hx, hall⟩
  · have : (Value.slice a n c) = .slice none 0 0 := by simpa [Value.cells] using hcs
    cases this
    exact ⟨fun _ => ⟨0, 0, 0, ⟨#[]⟩, ⟨#[]⟩⟩, fun h => absurd h (Nat.lt_irrefl _), Nat.zero_le _⟩
  · have : (Value.slice a n c) = .slice (some a1) len cap := by simpa [Value.cells] using hcs
    cases this
    simp only [if_true] at hmm
    subst hmm
    rw [cellsUop] at hall
    have each : ∀ i, i < n → ∃ o : OpU, W.cell? (a1.add (i * 5)) = some (.int .u8 o.kd) ∧ W.cell? (a1.add (i * 5 + 1)) = some (.int .i64 o.num) ∧ W.cell? (a1.add (i * 5 + 2)) = some (.int .i64 o.ep) ∧ W.cell? (a1.add (i * 5 + 3)) = some (.string o.who) ∧ W.cell? (a1.add (i * 5 + 4)) = some (.string o.text) ∧
        o.kd ≤ 255 ∧ o.who.size ≤ maxLen ∧ o.text.size ≤ maxLen := by
      intro i hi
      obtain ⟨cs', h1, h2⟩ := hall i (by omega)
      obtain ⟨_, hlen, hcell⟩ := World.cells?_some h1
      obtain ⟨v0, v1, v2, v3, v4, rfl⟩ := fiveU hlen
      obtain ⟨o, rfl, rfl, rfl, rfl, rfl, b1, b2, b3⟩ := open_uopL h2
      have c0 := hcell 0 (by omega)
      have c1 := hcell 1 (by omega)
      have c2 := hcell 2 (by omega)
      have c3 := hcell 3 (by omega)
      have c4 := hcell 4 (by omega)
      rw [Deep.add_add] at c0 c1 c2 c3 c4
      exact ⟨o, by simpa using c0, by simpa using c1, by simpa using c2, by simpa using c3, by simpa using c4, b1, b2, b3⟩
    obtain ⟨f, hf'⟩ := Deep.choose_lt each
    refine ⟨f, fun h0 => ?_, Nat.le_trans hl hm⟩
    obtain ⟨g, off, rfl⟩ := uaddr_at (by simpa only [Nat.zero_mul] using (hf' 0 h0).1)
    refine ⟨g, off, rfl, fun j hj => ?_⟩
    have := hf' j hj
    unfold maxLen at this
    simpa only [uadd_at, Nat.add_assoc] using this
end Go.Proofs.YtfobmfenjdiimaaGreatDoor
