/- Arguments that are pipes of the reference. -/
import Derived.Test.YtmknhokjpmjkkaaDoorRowG
namespace Go.Proofs.YtmknhokjpmjkkaaDoor
open Go.ChangeShapes Go.WideShapes Go.ChangeAt Go.ChangeMaps Go.RowKit

theorem cellsRefP : Tryd.prog.cellsOf 71 = 4 := by kernel_rfl
theorem underRefP : ∃ fs, Tryd.prog.underlying 71 = some (.struct fs) ∧ fs.toList.map (fun f => (f.type, f.offset)) = [(3, 0), (3, 1), (3, 2), (9, 3)] := ⟨_, Tryd.underlying71, by kernel_rfl⟩
set_option maxRecDepth 100000 in
theorem open_refp {H : Type} {enc : TypeId × Value → H} {W : World} {base : Nat} {v : Value} {d : DataW H} {p : List MemPlace} (hv : Value.okWide Tryd.prog W .any base 71 v) (h : DataW.Trod enc Tryd.prog W 0 (fun _ => true) true 71 v d p) :
    ∃ (e r w : Int) (s : ByteArray), v = .agg #[.int .i64 e, .int .i64 r, .int .i64 w, .string s] ∧ (e ≤ 9223372036854775807 ∧ -9223372036854775808 ≤ e) ∧ s.size ≤ maxLen := by
  obtain ⟨fs, hfs, hmap⟩ := underRefP
  obtain ⟨cs, rfl, hsz⟩ := okWide_struct hfs hv
  obtain ⟨fuel, hf⟩ := h
  obtain ⟨k, hk⟩ := trod_fields underRefP hf
  rw [cellsRefP] at hsz
  obtain ⟨v0, v1, v2, v3, rfl⟩ := four hsz
  obtain ⟨y0, g0⟩ := hk 0 _ _ rfl
  obtain ⟨y1, g1⟩ := hk 1 _ _ rfl
  obtain ⟨y2, g2⟩ := hk 2 _ _ rfl
  obtain ⟨y3, g3⟩ := hk 3 _ _ rfl
  rw [cellsInt] at g0 g1 g2
  rw [cellsStr] at g3
  obtain ⟨z0, e0, _, w0⟩ := DataW.trod_int Tryd.underlying3 g0
  obtain ⟨z1, e1, _, w1⟩ := DataW.trod_int Tryd.underlying3 g1
  obtain ⟨z2, e2, _, w2⟩ := DataW.trod_int Tryd.underlying3 g2
  obtain ⟨z3, e3, _, w3⟩ := DataW.trod_string Tryd.underlying9 g3
  obtain rfl : v0 = .int .i64 z0 := by simpa [Value.cells] using e0
  obtain rfl : v1 = .int .i64 z1 := by simpa [Value.cells] using e1
  obtain rfl : v2 = .int .i64 z2 := by simpa [Value.cells] using e2
  obtain rfl : v3 = .string z3 := by simpa [Value.cells] using e3
  have b0 := bounds_i64 w0
  exact ⟨z0, z1, z2, z3, rfl, by omega, w3⟩

end Go.Proofs.YtmknhokjpmjkkaaDoor
