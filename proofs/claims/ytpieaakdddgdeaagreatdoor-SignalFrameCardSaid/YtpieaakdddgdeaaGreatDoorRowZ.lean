/- Arguments of law 33: operations. -/
import Derived.Test.YtpieaakdddgdeaaGreatDoorRowG
namespace Go.Proofs.YtpieaakdddgdeaaGreatDoor
open Go.ChangeShapes Go.WideShapes Go.ChangeAt Go.ChangeMaps Go.RowKit

theorem sixV {cs : Array Value} (h : cs.size = 6) : ∃ v0 v1 v2 v3 v4 v5, cs = #[v0, v1, v2, v3, v4, v5] := by
  obtain ⟨l⟩ := cs
  match l, h with
  | [v0, v1, v2, v3, v4, v5], _ => exact ⟨v0, v1, v2, v3, v4, v5, rfl⟩
theorem cellsSU8 : Tryz.prog.cellsOf 5 = 1 := by kernel_rfl
theorem cellsSInt : Tryz.prog.cellsOf 3 = 1 := by kernel_rfl
theorem cellsSBool : Tryz.prog.cellsOf 4 = 1 := by kernel_rfl
theorem cellsSop : Tryz.prog.cellsOf 40 = 6 := by kernel_rfl
theorem underSop : ∃ fs, Tryz.prog.underlying 40 = some (.struct fs) ∧ fs.toList.map (fun f => (f.type, f.offset)) = [(5, 0), (5, 1), (5, 2), (3, 3), (3, 4), (4, 5)] := ⟨_, Tryz.underlying40, by kernel_rfl⟩

set_option maxRecDepth 100000 in
theorem open_sop {H : Type} {enc : TypeId × Value → H} {W : World} {base : Nat} {v : Value} {d : DataW H} {p : List MemPlace} (hv : Value.okWide Tryz.prog W .any base 40 v) (h : DataW.Trod enc Tryz.prog W 0 (fun _ => true) true 40 v d p) :
    ∃ (kd wh to : Nat) (sg nn : Int) (iss : Bool), v = .agg #[.int .u8 kd, .int .u8 wh, .int .u8 to, .int .i64 sg, .int .i64 nn, .bool iss] ∧ kd ≤ 255 ∧ wh ≤ 255 ∧ to ≤ 255 := by
  obtain ⟨fs, hfs, hmap⟩ := underSop
  obtain ⟨cs, rfl, hsz⟩ := okWide_struct hfs hv
  obtain ⟨fuel, hf⟩ := h
  obtain ⟨k, hk⟩ := trod_fields underSop hf
  rw [cellsSop] at hsz
  obtain ⟨v0, v1, v2, v3, v4, v5, rfl⟩ := sixV hsz
  obtain ⟨y0, g0⟩ := hk 0 _ _ rfl
  obtain ⟨y1, g1⟩ := hk 1 _ _ rfl
  obtain ⟨y2, g2⟩ := hk 2 _ _ rfl
  obtain ⟨y3, g3⟩ := hk 3 _ _ rfl
  obtain ⟨y4, g4⟩ := hk 4 _ _ rfl
  obtain ⟨y5, g5⟩ := hk 5 _ _ rfl
  rw [cellsSU8] at g0 g1 g2
  rw [cellsSInt] at g3 g4
  rw [cellsSBool] at g5
  obtain ⟨z0, e0, _, w0⟩ := DataW.trod_int Tryz.underlying5 g0
  obtain ⟨z1, e1, _, w1⟩ := DataW.trod_int Tryz.underlying5 g1
  obtain ⟨z2, e2, _, w2⟩ := DataW.trod_int Tryz.underlying5 g2
  obtain ⟨z3, e3, _, w3⟩ := DataW.trod_int Tryz.underlying3 g3
  obtain ⟨z4, e4, _, w4⟩ := DataW.trod_int Tryz.underlying3 g4
  obtain ⟨z5, e5, _⟩ := DataW.trod_bool Tryz.underlying4 g5
  obtain rfl : v0 = .int .u8 z0 := by simpa [Value.cells] using e0
  obtain rfl : v1 = .int .u8 z1 := by simpa [Value.cells] using e1
  obtain rfl : v2 = .int .u8 z2 := by simpa [Value.cells] using e2
  obtain rfl : v3 = .int .i64 z3 := by simpa [Value.cells] using e3
  obtain rfl : v4 = .int .i64 z4 := by simpa [Value.cells] using e4
  obtain rfl : v5 = .bool z5 := by simpa [Value.cells] using e5
  have b0 := bounds_u8 w0
  have b1 := bounds_u8 w1
  have b2 := bounds_u8 w2
  obtain ⟨m0, rfl⟩ := Int.eq_ofNat_of_zero_le b0.1
  obtain ⟨m1, rfl⟩ := Int.eq_ofNat_of_zero_le b1.1
  obtain ⟨m2, rfl⟩ := Int.eq_ofNat_of_zero_le b2.1
  exact ⟨m0, m1, m2, z3, z4, z5, rfl, by omega, by omega, by omega⟩

end Go.Proofs.YtpieaakdddgdeaaGreatDoor
