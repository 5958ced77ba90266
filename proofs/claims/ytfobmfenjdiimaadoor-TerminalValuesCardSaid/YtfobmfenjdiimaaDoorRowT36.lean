/- Arguments of law 36: a terminal of the reference. -/
import Derived.Test.YtfobmfenjdiimaaDoorRowE
import Derived.Test.YtfobmfenjdiimaaDoorTermA
import Derived.SliceStrings
import Derived.Deep.Grids
namespace Go.Proofs.YtfobmfenjdiimaaDoor
open Go.ChangeShapes Go.WideShapes Go.ChangeAt Go.ChangeMaps Go.RowKit

theorem add_at (g off j : Nat) : (⟨g, off, none⟩ : Addr).add j = ⟨g, off + j, none⟩ := by unfold Addr.add; split <;> simp_all
theorem spot_none {w : World} {a : Addr} {v : Value} (h : w.cell? a = some v) : a.spot = none := by
  unfold World.cell? at h
  split at h
  · split at h
    · cases h
    · rename_i h1
      simpa using h1
  · cases h
theorem addr_at {w : World} {a : Addr} {v : Value} (h : w.cell? (a.add 0) = some v) : ∃ g off, a = ⟨g, off, none⟩ := by
  obtain ⟨g, off, el⟩ := a
  have := spot_none h
  simp [Addr.add] at this
  exact ⟨g, off, by rw [this]⟩
theorem cellsTStr : Tryd.prog.cellsOf 9 = 1 := by kernel_rfl
theorem cellsTInt : Tryd.prog.cellsOf 3 = 1 := by kernel_rfl
theorem cellsTStrs : Tryd.prog.cellsOf 22 = 1 := by kernel_rfl
theorem cellsT36 : Tryd.prog.cellsOf 24 = 4 := by kernel_rfl
theorem underT36 : ∃ fs, Tryd.prog.underlying 24 = some (.struct fs) ∧ fs.toList.map (fun f => (f.type, f.offset)) = [(3, 0), (9, 1), (22, 2), (9, 3)] := ⟨_, Tryd.underlying24, by kernel_rfl⟩
theorem open_strs_in {H : Type} {enc : TypeId × Value → H} {W : World} {a : Option Addr} {n c fuel : Nat} {x : DataW H × List MemPlace} (hf : DataW.trod enc Tryd.prog W 0 (fun _ => true) true fuel 22 [.slice a n c] = some x) :
    ∃ ls, SSl W a n ls ∧ (∀ s ∈ ls, s.size ≤ maxLen) ∧ n ≤ maxLen := by
  rcases open_strings Tryd.underlying22 Tryd.underlying9 cellsTStr hf with ⟨hcs, hx⟩ | ⟨a1, len, cap, ss, hcs, _, hl, hm, hz, hx, hcell, hws⟩
  · have : (Value.slice a n c) = .slice none 0 0 := by simpa [Value.cells] using hcs
    cases this
    exact ⟨[], ⟨rfl, fun h => absurd h (Nat.lt_irrefl _)⟩, (fun s hs => by simp at hs), Nat.zero_le _⟩
  · have : (Value.slice a n c) = .slice (some a1) len cap := by simpa [Value.cells] using hcs
    cases this
    simp only [if_true] at hz
    refine ⟨ss.take n, ⟨by simp; omega, fun h0 => ?_⟩, fun s hs => hws s (List.mem_of_mem_take hs), Nat.le_trans hl hm⟩
    obtain ⟨g, off, rfl⟩ := addr_at (hcell 0 (by omega))
    refine ⟨g, off, rfl, fun j hj => ?_⟩
    have h1 := hcell j (by omega)
    rw [add_at] at h1
    rw [h1]
    congr 2
    simp [List.getD_eq_getElem?_getD, hj]
    rfl
set_option maxRecDepth 100000 in
theorem open_t36 {H : Type} {enc : TypeId × Value → H} {W : World} {base : Nat} {v : Value} {d : DataW H} {p : List MemPlace} (hv : Value.okWide Tryd.prog W .any base 24 v) (h : DataW.Trod enc Tryd.prog W 0 (fun _ => true) true 24 v d p) :
    ∃ (ep : Int) (se sc : ByteArray) (a : Option Addr) (n c : Nat) (ls : List ByteArray), v = .agg #[.int .i64 ep, .string se, .slice a n c, .string sc] ∧ SSl W a n ls ∧ (∀ s ∈ ls, s.size ≤ maxLen) ∧ n ≤ maxLen ∧ se.size ≤ maxLen ∧ sc.size ≤ maxLen := by
  obtain ⟨fs, hfs, hmap⟩ := underT36
  obtain ⟨cs, rfl, hsz⟩ := okWide_struct hfs hv
  obtain ⟨fuel, hf⟩ := h
  obtain ⟨k, hk⟩ := trod_fields underT36 hf
  rw [cellsT36] at hsz
  obtain ⟨v0, v1, v2, v3, rfl⟩ := four hsz
  obtain ⟨y0, g0⟩ := hk 0 _ _ rfl
  obtain ⟨y1, g1⟩ := hk 1 _ _ rfl
  obtain ⟨y2, g2⟩ := hk 2 _ _ rfl
  obtain ⟨y3, g3⟩ := hk 3 _ _ rfl
  rw [cellsTInt] at g0
  rw [cellsTStr] at g1 g3
  rw [cellsTStrs] at g2
  obtain ⟨z0, e0, _, w0⟩ := DataW.trod_int Tryd.underlying3 g0
  obtain ⟨z1, e1, _, w1⟩ := DataW.trod_string Tryd.underlying9 g1
  obtain ⟨z3, e3, _, w3⟩ := DataW.trod_string Tryd.underlying9 g3
  obtain rfl : v0 = .int .i64 z0 := by simpa [Value.cells] using e0
  obtain rfl : v1 = .string z1 := by simpa [Value.cells] using e1
  obtain rfl : v3 = .string z3 := by simpa [Value.cells] using e3
  have g2' : DataW.trod enc Tryd.prog W 0 (fun _ => true) true k 22 [v2] = some y2 := by simpa [Value.cells] using g2
  have hform : ∃ a n c, v2 = .slice a n c := by
    rcases Deep.open_slice Tryd.underlying22 g2' with ⟨hcs, _⟩ | ⟨a1, len, cap, m, fu, D, Pl, hcs, _⟩
    · exact ⟨none, 0, 0, by simpa using hcs⟩
    · exact ⟨some a1, len, cap, by simpa using hcs⟩
  obtain ⟨a, n, c, rfl⟩ := hform
  obtain ⟨ls, h1, h2, h3⟩ := open_strs_in g2'
  exact ⟨z0, z1, z3, a, n, c, ls, rfl, h1, h2, h3, w1, w3⟩
end Go.Proofs.YtfobmfenjdiimaaDoor
