/- Arguments of law 37: ports and slices of packets. -/
import Derived.Test.YtalpkndlnfgjfaaDoorRowQ
import Derived.Test.YtalpkndlnfgjfaaDoorPorD
import Derived.Deep.Grids
namespace Go.Proofs.YtalpkndlnfgjfaaDoor
open Go.ChangeShapes Go.WideShapes Go.ChangeAt Go.ChangeMaps Go.RowKit

theorem padd_at (g off j : Nat) : (⟨g, off, none⟩ : Addr).add j = ⟨g, off + j, none⟩ := by unfold Addr.add; split <;> simp_all
theorem pspot_none {w : World} {a : Addr} {v : Value} (h : w.cell? a = some v) : a.spot = none := by
  unfold World.cell? at h
  split at h
  · split at h
    · cases h
    · rename_i h1
      simpa using h1
  · cases h
theorem paddr_at {w : World} {a : Addr} {v : Value} (h : w.cell? (a.add 0) = some v) : ∃ g off, a = ⟨g, off, none⟩ := by
  obtain ⟨g, off, el⟩ := a
  have := pspot_none h
  simp [Addr.add] at this
  exact ⟨g, off, by rw [this]⟩
theorem ptwo {cs : List Value} (h : cs.length = 2) : ∃ v0 v1, cs = [v0, v1] := by
  match cs, h with
  | [v0, v1], _ => exact ⟨v0, v1, rfl⟩
instance : Inhabited PackT := ⟨zeroPk⟩

set_option maxRecDepth 100000 in
theorem open_packs_in {H : Type} {enc : TypeId × Value → H} {W : World} {a : Option Addr} {n c fuel : Nat} {x : DataW H × List MemPlace} (hf : DataW.trod enc Tryd.prog W 0 (fun _ => true) true fuel 23 [.slice a n c] = some x) :
    ∃ ls, PSl W a n ls ∧ (∀ s ∈ ls, s.src.size ≤ maxLen ∧ s.bytes.size ≤ maxLen) ∧ n ≤ maxLen := by
  rcases Deep.open_slice Tryd.underlying23 hf with ⟨hcs, hx⟩ | ⟨a1, len, cap, m, fu, D, Pl, hcs, _, hl, hm, hmm, hx, hall⟩
  · have : (Value.slice a n c) = .slice none 0 0 := by simpa using hcs
    cases this
    exact ⟨[], PSl.nil _, by simp, Nat.zero_le _⟩
  · have : (Value.slice a n c) = .slice (some a1) len cap := by simpa using hcs
    cases this
    simp only [if_true] at hmm
    subst hmm
    rw [cellsPack] at hall
    have each : ∀ i, i < n → ∃ o : PackT, W.cell? (a1.add (i * 2)) = some (.string o.src) ∧ W.cell? (a1.add (i * 2 + 1)) = some (.string o.bytes) ∧ o.src.size ≤ maxLen ∧ o.bytes.size ≤ maxLen := by
      intro i hi
      obtain ⟨cs', h1, h2⟩ := hall i (by omega)
      obtain ⟨_, hlen, hcell⟩ := World.cells?_some h1
      obtain ⟨v0, v1, rfl⟩ := ptwo hlen
      obtain ⟨s0, s1, rfl, rfl, b0, b1⟩ := open_pack h2
      have c0 := hcell 0 (by omega)
      have c1 := hcell 1 (by omega)
      rw [Deep.add_add] at c0 c1
      exact ⟨⟨s0, s1⟩, by simpa using c0, by simpa using c1, b0, b1⟩
    obtain ⟨f, hf'⟩ := Deep.choose_lt each
    have hget : ∀ j, j < n → ((List.range n).map f).getD j zeroPk = f j := fun j hj => by simp [hj]
    refine ⟨(List.range n).map f, ⟨by simp, fun h0 => ?_⟩, fun s hs => ?_, Nat.le_trans hl hm⟩
    · obtain ⟨g, off, rfl⟩ := paddr_at (by simpa only [Nat.zero_mul] using (hf' 0 h0).1)
      refine ⟨g, off, rfl, fun j hj => ?_⟩
      have := hf' j hj
      rw [hget j hj]
      have h1 := this.1
      have h2 := this.2.1
      rw [padd_at] at h1 h2
      exact ⟨h1, h2⟩
    · obtain ⟨j, hj, rfl⟩ := List.mem_map.1 hs
      have := hf' j (List.mem_range.1 hj)
      exact ⟨this.2.2.1, this.2.2.2⟩
theorem open_packs {H : Type} {enc : TypeId × Value → H} {W : World} {a : Option Addr} {n c : Nat} {d : DataW H} {p : List MemPlace} (h : DataW.Trod enc Tryd.prog W 0 (fun _ => true) true 23 (.slice a n c) d p) :
    ∃ ls, PSl W a n ls ∧ (∀ s ∈ ls, s.src.size ≤ maxLen ∧ s.bytes.size ≤ maxLen) ∧ n ≤ maxLen := by
  obtain ⟨fuel, hf⟩ := h
  exact open_packs_in hf

theorem cellsPort : Tryd.prog.cellsOf 25 = 4 := by kernel_rfl
theorem cellsName : Tryd.prog.cellsOf 22 = 1 := by kernel_rfl
theorem cellsPacks : Tryd.prog.cellsOf 23 = 1 := by kernel_rfl
theorem underPort : ∃ fs, Tryd.prog.underlying 25 = some (.struct fs) ∧ fs.toList.map (fun f => (f.type, f.offset)) = [(22, 0), (3, 1), (3, 2), (23, 3)] := ⟨_, Tryd.underlying25, by kernel_rfl⟩
set_option maxRecDepth 100000 in
theorem open_port {H : Type} {enc : TypeId × Value → H} {W : World} {base : Nat} {v : Value} {d : DataW H} {p : List MemPlace} (hv : Value.okWide Tryd.prog W .any base 25 v) (h : DataW.Trod enc Tryd.prog W 0 (fun _ => true) true 25 v d p) :
    ∃ (ow : ByteArray) (ep lo : Int) (a : Option Addr) (n c : Nat) (ls : List PackT), v = .agg #[.string ow, .int .i64 ep, .int .i64 lo, .slice a n c] ∧ PSl W a n ls ∧ (∀ s ∈ ls, s.src.size ≤ maxLen ∧ s.bytes.size ≤ maxLen) ∧ n ≤ maxLen ∧ ow.size ≤ maxLen := by
  obtain ⟨fs, hfs, hmap⟩ := underPort
  obtain ⟨cs, rfl, hsz⟩ := okWide_struct hfs hv
  obtain ⟨fuel, hf⟩ := h
  obtain ⟨k, hk⟩ := trod_fields underPort hf
  rw [cellsPort] at hsz
  obtain ⟨v0, v1, v2, v3, rfl⟩ := four hsz
  obtain ⟨y0, g0⟩ := hk 0 _ _ rfl
  obtain ⟨y1, g1⟩ := hk 1 _ _ rfl
  obtain ⟨y2, g2⟩ := hk 2 _ _ rfl
  obtain ⟨y3, g3⟩ := hk 3 _ _ rfl
  rw [cellsName] at g0
  rw [cellsInt] at g1 g2
  rw [cellsPacks] at g3
  obtain ⟨z0, e0, _, w0⟩ := DataW.trod_string Tryd.underlying22 g0
  obtain ⟨z1, e1, _, w1⟩ := DataW.trod_int Tryd.underlying3 g1
  obtain ⟨z2, e2, _, w2⟩ := DataW.trod_int Tryd.underlying3 g2
  obtain rfl : v0 = .string z0 := by simpa [Value.cells] using e0
  obtain rfl : v1 = .int .i64 z1 := by simpa [Value.cells] using e1
  obtain rfl : v2 = .int .i64 z2 := by simpa [Value.cells] using e2
  have g3' : DataW.trod enc Tryd.prog W 0 (fun _ => true) true k 23 [v3] = some y3 := by simpa [Value.cells] using g3
  have hform : ∃ a n c, v3 = .slice a n c := by
    rcases Deep.open_slice Tryd.underlying23 g3' with ⟨hcs, _⟩ | ⟨a1, len, cap, m, fu, D, Pl, hcs, _⟩
    · exact ⟨none, 0, 0, by simpa using hcs⟩
    · exact ⟨some a1, len, cap, by simpa using hcs⟩
  obtain ⟨a, n, c, rfl⟩ := hform
  obtain ⟨ls, h1, h2, h3⟩ := open_packs_in g3'
  exact ⟨z0, z1, z2, a, n, c, ls, rfl, h1, h2, h3, w0⟩

end Go.Proofs.YtalpkndlnfgjfaaDoor
